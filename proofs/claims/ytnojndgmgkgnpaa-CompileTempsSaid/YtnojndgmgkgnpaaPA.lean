/- Chapter 10: the reference's parser: what it holds; the token ahead. -/
import Derived.Test.YtnojndgmgkgnpaaPPlain
import Derived.Test.YtnojndgmgkgnpaaCZ
import Derived.Test.YtnojndgmgkgnpaaXPlain
import Derived.Deep.QuietTactic
import Derived.BigQuiet
namespace Go.Proofs.Ytnojndgmgkgnpaa
open Go.ChangeShapes Go.WideShapes Go.ChangeAt Go.RowKit Go.Deep Go.Joins Go.Maps
set_option linter.unusedVariables false
set_option linter.unusedSimpArgs false
structure PW (w : World) (pb : Nat) (v : Value) (T : Tks) (s : PSt) : Prop where
 box : w.heap[pb]? = some (.cells #[v, .int .i64 (s.i : Int), .int .i64 s.deep, .int .i64 s.e, .int .i64 s.at_] 50 (0, 0))
 row : w.ownsRow 0 55 4 v T.length (Lx.rowCells T)
 le : s.i ≤ T.length + 1
structure TokOk (T : Tks) : Prop where
 pos : 0 < T.length
 len : T.length ≤ 100000
 last : (T.getD (T.length - 1) noTok).kind = 0
 num : ∀ t, t ∈ T → InI t.num
 text : ∀ t, t ∈ T → (tx t).size ≤ 100000
abbrev atP (pb : Nat) : Nat → Prop := fun k => k = pb
/-- from one moment of the parser to a later one -/
abbrev PT (pb : Nat) (v : Value) (T : Tks) (w w' : World) (s' : PSt) : Prop := PW w' pb v T s' ∧ Turns (atP pb) w w'
theorem PW.ne {w : World} {pb : Nat} {v : Value} {T : Tks} {s : PSt} (h : PW w pb v T s) : ∀ k, v.ownBlock = some k → k ≠ pb := fun k hk e => by
 obtain ⟨cur, hc⟩ := own_type h.row hk
 rw [e, h.box] at hc; simp at hc
theorem PW.below {w w' : World} {pb : Nat} {v : Value} {T : Tks} {s : PSt} (h : PW w pb v T s) (hb : Below w.heap.size w w') : PW w' pb v T s :=
 ⟨(hb.block _ (lt_of_block h.box)).trans h.box, ownsRow_same h.row hb.size (fun k hk => hb.block k (World.ownsRow.lt h.row k hk).2), h.le⟩
theorem PT.below {w w' w'' : World} {pb : Nat} {v : Value} {T : Tks} {s : PSt} (h : PT pb v T w w' s) (hb : Below w'.heap.size w' w'') : PT pb v T w w'' s := ⟨h.1.below hb, h.2.trans (Turns.of_below hb)⟩
theorem PT.go {w w' w'' : World} {pb : Nat} {v : Value} {T : Tks} {s s' : PSt} (h : PT pb v T w w' s) (g : PT pb v T w' w'' s') : PT pb v T w w'' s' := ⟨g.1, h.2.trans g.2⟩
theorem PW.pt {w : World} {pb : Nat} {v : Value} {T : Tks} {s : PSt} (h : PW w pb v T s) : PT pb v T w w s := ⟨h, Turns.refl _ _⟩
theorem PW.cell {w : World} {pb : Nat} {v : Value} {T : Tks} {s : PSt} (h : PW w pb v T s) {k : Nat} {u : Value} (hu : #[v, .int .i64 (s.i : Int), .int .i64 s.deep, .int .i64 s.e, .int .i64 s.at_][k]? = some u) : w.cell? ⟨pb, k, none⟩ = some u := cell_in h.box hu
theorem PW.free {w : World} {pb : Nat} {v : Value} {T : Tks} {s : PSt} (h : PW w pb v T s) (k : Nat) : w.frozen? ⟨pb, k, none⟩ = false := by simp [World.frozen?, h.box]
theorem tokCells_len (t : Lx.ATok) : (Lx.tokCells t).length = 4 := rfl
/-- a token of the row -/
structure Tok4 (w : World) (g o : Nat) (t : Lx.ATok) : Prop where
 c0 : w.cell? ⟨g, o, none⟩ = some (.int .i64 t.kind)
 c1 : w.cell? ⟨g, o + 1, none⟩ = some (.string (tx t))
 c2 : w.cell? ⟨g, o + 2, none⟩ = some (.int .i64 t.num)
 c3 : w.cell? ⟨g, o + 3, none⟩ = some (.int .i64 (t.at_ : Int))
theorem PW.tok {w : World} {pb : Nat} {v : Value} {T : Tks} {s : PSt} (h : PW w pb v T s) {j : Nat} (hj : j < T.length) : ∃ g c, v = .slice (some ⟨g, 0, none⟩) T.length c ∧ g < w.heap.size ∧ Tok4 w g (j * 4) (T.getD j noTok) := by
 have ho := h.row
 rcases ho.2 with ⟨_, h0⟩ | ⟨g, cap, cur, hv, hg, hh, h1, h2, _⟩
 ·omega
 ·rw [hv] at ho
  have e : T.getD j noTok = T[j] := by rw [List.getD_eq_getElem?_getD, List.getElem?_eq_getElem hj]; rfl
  have hc : ∀ jj, jj < 4 → w.cell? ⟨g, j * 4 + jj, none⟩ = (Lx.tokCells T[j])[jj]? := fun jj hjj => by
   rw [World.ownsRow.cellAt ho (j * 4 + jj) (by omega)]
   exact flat_at tokCells_len T j jj hj hjj
  rw [e]
  exact ⟨g, cap, hv, lt_of_block hh, hc 0 (by omega), hc 1 (by omega), hc 2 (by omega), hc 3 (by omega)⟩
theorem four_turns {X : Nat → Prop} {w w' : World} (h : Turns X w w') (b : Nat) (hb : X b) {x0 x1 x2 x3 : Value} : Turns X w ((((w'.setCell ⟨b, 0, none⟩ x0).setCell ⟨b, 1, none⟩ x1).setCell ⟨b, 2, none⟩ x2).setCell ⟨b, 3, none⟩ x3) :=
 (((h.setCell ⟨b, 0, none⟩ x0 (.inl hb)).setCell ⟨b, 1, none⟩ x1 (.inl hb)).setCell ⟨b, 2, none⟩ x2 (.inl hb)).setCell ⟨b, 3, none⟩ x3 (.inl hb)
def tkV (t : Lx.ATok) : Value := .agg #[.int .i64 t.kind, .string (tx t), .int .i64 t.num, .int .i64 (t.at_ : Int)]
set_option maxRecDepth 100000 in
set_option maxHeartbeats 16000000 in
theorem ahead0_any {w : World} {pb : Nat} {v : Value} {T : Tks} {s : PSt} (h : PW w pb v T s) (hok : TokOk T) : Calls Try.prog 27 #[.pointer (some ⟨pb, 0, none⟩), .int .i64 0] w fun e w' => e = .returned (tkV (ahd T s 0)) ∧ Below w.heap.size w w' := by
 have hi := h.le
 by_cases hlt : T.length ≤ s.i + 0
 ·have ha : ahd T s 0 = T.getD (T.length - 1) noTok := by unfold ahd; rw [if_pos hlt]
  rw [ha]
  obtain ⟨t, ht⟩ : ∃ t, T.getD (T.length - 1) noTok = t := ⟨_, rfl⟩
  obtain ⟨g, c, hv, hgl, t0, t1, t2, t3⟩ := h.tok (j := T.length - 1) (by have := hok.pos; omega)
  rw [ht] at t0 t1 t2 t3 ⊢
  have hpl := lt_of_block h.box
  obtain ⟨n, hn⟩ : ∃ n, T.length = n := ⟨_, rfl⟩
  obtain ⟨i, hii⟩ : ∃ i, s.i = i := ⟨_, rfl⟩
  have hlen := hok.len
  have hpos := hok.pos
  have k1 : w.cell? ⟨pb, 1, none⟩ = some (.int .i64 (s.i : Int)) := h.cell rfl
  have k0 : w.cell? ⟨pb, 0, none⟩ = some v := h.cell rfl
  rw [hn] at hv hi hlen hpos hlt
  rw [hii] at k1 hi hlt
  rw [hn] at t0 t1 t2 t3
  subst hv
  obtain ⟨j, hj⟩ : ∃ j, n - 1 = j := ⟨_, rfl⟩
  skip
  rw [hj] at t0 t1 t2 t3
  have hw1 : wrap64 ((i : Int) + 0) = (i : Int) + 0 := by unfold wrap64; omega
  have hw0 : IntKind.i64.wrap (i : Int) = (i : Int) := by rw [IntKind.wrap_i64]; omega
  have hw2 : wrap64 ((n : Int) - 1) = (j : Int) := by unfold wrap64; omega
  have hw3 : IntKind.i64.wrap ((n : Int) - 1) = (j : Int) := by rw [IntKind.wrap_i64]; omega
  have hjn : ((n : Int) - 1) = (j : Int) := by omega
  have d1 : decide ((n : Int) ≤ (i : Int)) = true := decide_eq_true (by omega)
  have d2 : decide (n ≤ i) = true := decide_eq_true (by omega)
  have g0 : (0 : Int) ≤ (j : Int) := by omega
  have g1 : (j : Int) < (n : Int) := by omega
  have HB2 : Hid (Below w.heap.size w (w.alloc (.cells #[.int .i64 0, .string eB, .int .i64 0, .int .i64 0] 55))) := Lib.hid ((Below.refl _ _).alloc (Nat.le_refl _) _)
  have HMZ : Hid ((w.alloc (.cells #[.int .i64 0, .string eB, .int .i64 0, .int .i64 0] 55)).heap[w.heap.size]? = some (.cells #[.int .i64 0, .string eB, .int .i64 0, .int .i64 0] 55 (0, 0))) := Lib.hid (heap_alloc_new w _)
  have k1a : (w.alloc (.cells #[.int .i64 0, .string eB, .int .i64 0, .int .i64 0] 55)).cell? ⟨pb, 1, none⟩ = _ := Lib.cell?_alloc_marked _ k1
  have k0a : (w.alloc (.cells #[.int .i64 0, .string eB, .int .i64 0, .int .i64 0] 55)).cell? ⟨pb, 0, none⟩ = _ := Lib.cell?_alloc_marked _ k0
  have t0a : (w.alloc (.cells #[.int .i64 0, .string eB, .int .i64 0, .int .i64 0] 55)).cell? ⟨g, j * 4, none⟩ = _ := Lib.cell?_alloc_marked _ t0
  have t1a : (w.alloc (.cells #[.int .i64 0, .string eB, .int .i64 0, .int .i64 0] 55)).cell? ⟨g, j * 4 + 1, none⟩ = _ := Lib.cell?_alloc_marked _ t1
  have t2a : (w.alloc (.cells #[.int .i64 0, .string eB, .int .i64 0, .int .i64 0] 55)).cell? ⟨g, j * 4 + 2, none⟩ = _ := Lib.cell?_alloc_marked _ t2
  have t3a : (w.alloc (.cells #[.int .i64 0, .string eB, .int .i64 0, .int .i64 0] 55)).cell? ⟨g, j * 4 + 3, none⟩ = _ := Lib.cell?_alloc_marked _ t3
  skip
  clear h hok ha ht hn hii hjn hi hlen hpos hlt k0 k1 t0 t1 t2 t3
  clear hj
  go_enter Try.func27, Try.ntmps27
  go_upto_region 1 with fail
  have hb2 := HB2.out
  have hmz := HMZ.out
  have k0b := k0a
  have k1b := k1a
  have t0b := t0a
  have t1b := t1a
  have t2b := t2a
  have t3b := t3a
  clear HB2 HMZ k0a k1a t0a t1a t2a t3a
  have hgl2 := Nat.lt_of_lt_of_le hgl hb2.size
  have hpl2 := Nat.lt_of_lt_of_le hpl hb2.size
  obtain ⟨w2, hw2x⟩ : ∃ w2, w.alloc (.cells #[.int .i64 0, .string eB, .int .i64 0, .int .i64 0] 55) = w2 := ⟨_, rfl⟩
  rw [hw2x] at hb2 hmz k0b k1b t0b t1b t2b t3b hgl2 hpl2 ⊢
  have HB2 := Lib.hid hb2
  have HMZ := Lib.hid hmz
  obtain ⟨m0, m1, m2, m3⟩ := cc4 hmz
  have r0 : w2.frozen? ⟨w.heap.size, 0, none⟩ = false := by simp [World.frozen?, hmz]
  have r1 : w2.frozen? ⟨w.heap.size, 1, none⟩ = false := by simp [World.frozen?, hmz]
  have r2 : w2.frozen? ⟨w.heap.size, 2, none⟩ = false := by simp [World.frozen?, hmz]
  have r3 : w2.frozen? ⟨w.heap.size, 3, none⟩ = false := by simp [World.frozen?, hmz]
  clear hb2 hmz hw2x
  go_quiet (fail)
  go_upto_region 2 with fail
  go_region
  all_goals
   go_wp2_with fail
   obtain ⟨W9, hW9⟩ : ∃ W9, W9 = (((((w2.drewN (nq + 1)).setCell ⟨w.heap.size, 0, none⟩ (.int .i64 t.kind)).setCell ⟨w.heap.size, 1, none⟩ (.string (tx t))).setCell ⟨w.heap.size, 2, none⟩ (.int .i64 t.num)).setCell ⟨w.heap.size, 3, none⟩ (.int .i64 (t.at_ : Int))) := ⟨_, rfl⟩
   have h9 : W9.heap[w.heap.size]? = some (.cells #[.int .i64 t.kind, .string (tx t), .int .i64 t.num, .int .i64 (t.at_ : Int)] 55 (0, 0)) := by rw [hW9]; exact agg_set (by exact HMZ.out)
   obtain ⟨z0, z1, z2, z3⟩ := cc4 h9
   have HB9 : Hid (Below w.heap.size w W9) := Lib.hid (by rw [hW9]; exact setCells4_below (below_drewN HB2.out _) (Nat.le_refl _))
   rw [← hW9]
   clear hW9 h9
   refine bodyPost_ret (v := .agg #[.int .i64 t.kind, .string (tx t), .int .i64 t.num, .int .i64 (t.at_ : Int)]) (by simp [results, Try.results27, go_sem, z0, z1, z2, z3]) rfl ?_
   exact ⟨rfl, by first | exact HB9.out | exact HB9.out.drew⟩
 ·have ha : ahd T s 0 = T.getD (s.i + 0) noTok := by unfold ahd; rw [if_neg hlt]
  rw [ha]
  obtain ⟨t, ht⟩ : ∃ t, T.getD (s.i + 0) noTok = t := ⟨_, rfl⟩
  obtain ⟨g, c, hv, hgl, t0, t1, t2, t3⟩ := h.tok (j := s.i + 0) (by omega)
  rw [ht] at t0 t1 t2 t3 ⊢
  have hpl := lt_of_block h.box
  obtain ⟨n, hn⟩ : ∃ n, T.length = n := ⟨_, rfl⟩
  obtain ⟨i, hii⟩ : ∃ i, s.i = i := ⟨_, rfl⟩
  have hlen := hok.len
  have hpos := hok.pos
  have k1 : w.cell? ⟨pb, 1, none⟩ = some (.int .i64 (s.i : Int)) := h.cell rfl
  have k0 : w.cell? ⟨pb, 0, none⟩ = some v := h.cell rfl
  rw [hn] at hv hi hlen hpos hlt
  rw [hii] at k1 hi hlt
  rw [hii] at t0 t1 t2 t3
  subst hv
  obtain ⟨j, hj⟩ : ∃ j, i = j := ⟨_, rfl⟩
  rw [Nat.add_zero] at t0 t1 t2 t3 hlt
  rw [hj] at t0 t1 t2 t3
  have hw1 : wrap64 ((i : Int) + 0) = (j : Int) := by unfold wrap64; omega
  have hw0 : IntKind.i64.wrap (i : Int) = (i : Int) := by rw [IntKind.wrap_i64]; omega
  have hw2 : wrap64 ((n : Int) - 1) = (n : Int) - 1 := by unfold wrap64; omega
  have hw3 : IntKind.i64.wrap ((n : Int) - 1) = (n : Int) - 1 := by rw [IntKind.wrap_i64]; omega
  have hjn : (i : Int) = (j : Int) := by omega
  have d1 : decide ((n : Int) ≤ (i : Int)) = false := decide_eq_false (by omega)
  have d2 : decide (n ≤ i) = false := decide_eq_false (by omega)
  have g0 : (0 : Int) ≤ (j : Int) := by omega
  have g1 : (j : Int) < (n : Int) := by omega
  have HB2 : Hid (Below w.heap.size w (w.alloc (.cells #[.int .i64 0, .string eB, .int .i64 0, .int .i64 0] 55))) := Lib.hid ((Below.refl _ _).alloc (Nat.le_refl _) _)
  have HMZ : Hid ((w.alloc (.cells #[.int .i64 0, .string eB, .int .i64 0, .int .i64 0] 55)).heap[w.heap.size]? = some (.cells #[.int .i64 0, .string eB, .int .i64 0, .int .i64 0] 55 (0, 0))) := Lib.hid (heap_alloc_new w _)
  have k1a : (w.alloc (.cells #[.int .i64 0, .string eB, .int .i64 0, .int .i64 0] 55)).cell? ⟨pb, 1, none⟩ = _ := Lib.cell?_alloc_marked _ k1
  have k0a : (w.alloc (.cells #[.int .i64 0, .string eB, .int .i64 0, .int .i64 0] 55)).cell? ⟨pb, 0, none⟩ = _ := Lib.cell?_alloc_marked _ k0
  have t0a : (w.alloc (.cells #[.int .i64 0, .string eB, .int .i64 0, .int .i64 0] 55)).cell? ⟨g, j * 4, none⟩ = _ := Lib.cell?_alloc_marked _ t0
  have t1a : (w.alloc (.cells #[.int .i64 0, .string eB, .int .i64 0, .int .i64 0] 55)).cell? ⟨g, j * 4 + 1, none⟩ = _ := Lib.cell?_alloc_marked _ t1
  have t2a : (w.alloc (.cells #[.int .i64 0, .string eB, .int .i64 0, .int .i64 0] 55)).cell? ⟨g, j * 4 + 2, none⟩ = _ := Lib.cell?_alloc_marked _ t2
  have t3a : (w.alloc (.cells #[.int .i64 0, .string eB, .int .i64 0, .int .i64 0] 55)).cell? ⟨g, j * 4 + 3, none⟩ = _ := Lib.cell?_alloc_marked _ t3
  skip
  clear h hok ha ht hn hii hjn hi hlen hpos hlt k0 k1 t0 t1 t2 t3
  subst hj
  go_enter Try.func27, Try.ntmps27
  go_upto_region 1 with fail
  have hb2 := HB2.out
  have hmz := HMZ.out
  have k0b := k0a
  have k1b := k1a
  have t0b := t0a
  have t1b := t1a
  have t2b := t2a
  have t3b := t3a
  clear HB2 HMZ k0a k1a t0a t1a t2a t3a
  have hgl2 := Nat.lt_of_lt_of_le hgl hb2.size
  have hpl2 := Nat.lt_of_lt_of_le hpl hb2.size
  obtain ⟨w2, hw2x⟩ : ∃ w2, w.alloc (.cells #[.int .i64 0, .string eB, .int .i64 0, .int .i64 0] 55) = w2 := ⟨_, rfl⟩
  rw [hw2x] at hb2 hmz k0b k1b t0b t1b t2b t3b hgl2 hpl2 ⊢
  have HB2 := Lib.hid hb2
  have HMZ := Lib.hid hmz
  obtain ⟨m0, m1, m2, m3⟩ := cc4 hmz
  have r0 : w2.frozen? ⟨w.heap.size, 0, none⟩ = false := by simp [World.frozen?, hmz]
  have r1 : w2.frozen? ⟨w.heap.size, 1, none⟩ = false := by simp [World.frozen?, hmz]
  have r2 : w2.frozen? ⟨w.heap.size, 2, none⟩ = false := by simp [World.frozen?, hmz]
  have r3 : w2.frozen? ⟨w.heap.size, 3, none⟩ = false := by simp [World.frozen?, hmz]
  clear hb2 hmz hw2x
  go_quiet (fail)
  go_upto_region 3 with fail
  go_region
  all_goals
   go_wp2_with fail
   obtain ⟨W9, hW9⟩ : ∃ W9, W9 = (((((w2.drewN (nq + 1)).setCell ⟨w.heap.size, 0, none⟩ (.int .i64 t.kind)).setCell ⟨w.heap.size, 1, none⟩ (.string (tx t))).setCell ⟨w.heap.size, 2, none⟩ (.int .i64 t.num)).setCell ⟨w.heap.size, 3, none⟩ (.int .i64 (t.at_ : Int))) := ⟨_, rfl⟩
   have h9 : W9.heap[w.heap.size]? = some (.cells #[.int .i64 t.kind, .string (tx t), .int .i64 t.num, .int .i64 (t.at_ : Int)] 55 (0, 0)) := by rw [hW9]; exact agg_set (by exact HMZ.out)
   obtain ⟨z0, z1, z2, z3⟩ := cc4 h9
   have HB9 : Hid (Below w.heap.size w W9) := Lib.hid (by rw [hW9]; exact setCells4_below (below_drewN HB2.out _) (Nat.le_refl _))
   rw [← hW9]
   clear hW9 h9
   refine bodyPost_ret (v := .agg #[.int .i64 t.kind, .string (tx t), .int .i64 t.num, .int .i64 (t.at_ : Int)]) (by simp [results, Try.results27, go_sem, z0, z1, z2, z3]) rfl ?_
   exact ⟨rfl, by first | exact HB9.out | exact HB9.out.drew⟩
set_option maxRecDepth 100000 in
set_option maxHeartbeats 16000000 in
theorem ahead1_any {w : World} {pb : Nat} {v : Value} {T : Tks} {s : PSt} (h : PW w pb v T s) (hok : TokOk T) : Calls Try.prog 27 #[.pointer (some ⟨pb, 0, none⟩), .int .i64 1] w fun e w' => e = .returned (tkV (ahd T s 1)) ∧ Below w.heap.size w w' := by
 have hi := h.le
 by_cases hlt : T.length ≤ s.i + 1
 ·have ha : ahd T s 1 = T.getD (T.length - 1) noTok := by unfold ahd; rw [if_pos hlt]
  rw [ha]
  obtain ⟨t, ht⟩ : ∃ t, T.getD (T.length - 1) noTok = t := ⟨_, rfl⟩
  obtain ⟨g, c, hv, hgl, t0, t1, t2, t3⟩ := h.tok (j := T.length - 1) (by have := hok.pos; omega)
  rw [ht] at t0 t1 t2 t3 ⊢
  have hpl := lt_of_block h.box
  obtain ⟨n, hn⟩ : ∃ n, T.length = n := ⟨_, rfl⟩
  obtain ⟨i, hii⟩ : ∃ i, s.i = i := ⟨_, rfl⟩
  have hlen := hok.len
  have hpos := hok.pos
  have k1 : w.cell? ⟨pb, 1, none⟩ = some (.int .i64 (s.i : Int)) := h.cell rfl
  have k0 : w.cell? ⟨pb, 0, none⟩ = some v := h.cell rfl
  rw [hn] at hv hi hlen hpos hlt
  rw [hii] at k1 hi hlt
  rw [hn] at t0 t1 t2 t3
  subst hv
  obtain ⟨j, hj⟩ : ∃ j, n - 1 = j := ⟨_, rfl⟩
  skip
  rw [hj] at t0 t1 t2 t3
  have hw1 : wrap64 ((i : Int) + 1) = (i : Int) + 1 := by unfold wrap64; omega
  have hw0 : IntKind.i64.wrap (i : Int) = (i : Int) := by rw [IntKind.wrap_i64]; omega
  have hw2 : wrap64 ((n : Int) - 1) = (j : Int) := by unfold wrap64; omega
  have hw3 : IntKind.i64.wrap ((n : Int) - 1) = (j : Int) := by rw [IntKind.wrap_i64]; omega
  have hjn : ((n : Int) - 1) = (j : Int) := by omega
  have d1 : decide ((n : Int) ≤ (i : Int) + 1) = true := decide_eq_true (by omega)
  have d2 : decide (n ≤ i + 1) = true := decide_eq_true (by omega)
  have g0 : (0 : Int) ≤ (j : Int) := by omega
  have g1 : (j : Int) < (n : Int) := by omega
  have HB2 : Hid (Below w.heap.size w (w.alloc (.cells #[.int .i64 0, .string eB, .int .i64 0, .int .i64 0] 55))) := Lib.hid ((Below.refl _ _).alloc (Nat.le_refl _) _)
  have HMZ : Hid ((w.alloc (.cells #[.int .i64 0, .string eB, .int .i64 0, .int .i64 0] 55)).heap[w.heap.size]? = some (.cells #[.int .i64 0, .string eB, .int .i64 0, .int .i64 0] 55 (0, 0))) := Lib.hid (heap_alloc_new w _)
  have k1a : (w.alloc (.cells #[.int .i64 0, .string eB, .int .i64 0, .int .i64 0] 55)).cell? ⟨pb, 1, none⟩ = _ := Lib.cell?_alloc_marked _ k1
  have k0a : (w.alloc (.cells #[.int .i64 0, .string eB, .int .i64 0, .int .i64 0] 55)).cell? ⟨pb, 0, none⟩ = _ := Lib.cell?_alloc_marked _ k0
  have t0a : (w.alloc (.cells #[.int .i64 0, .string eB, .int .i64 0, .int .i64 0] 55)).cell? ⟨g, j * 4, none⟩ = _ := Lib.cell?_alloc_marked _ t0
  have t1a : (w.alloc (.cells #[.int .i64 0, .string eB, .int .i64 0, .int .i64 0] 55)).cell? ⟨g, j * 4 + 1, none⟩ = _ := Lib.cell?_alloc_marked _ t1
  have t2a : (w.alloc (.cells #[.int .i64 0, .string eB, .int .i64 0, .int .i64 0] 55)).cell? ⟨g, j * 4 + 2, none⟩ = _ := Lib.cell?_alloc_marked _ t2
  have t3a : (w.alloc (.cells #[.int .i64 0, .string eB, .int .i64 0, .int .i64 0] 55)).cell? ⟨g, j * 4 + 3, none⟩ = _ := Lib.cell?_alloc_marked _ t3
  skip
  clear h hok ha ht hn hii hjn hi hlen hpos hlt k0 k1 t0 t1 t2 t3
  clear hj
  go_enter Try.func27, Try.ntmps27
  go_upto_region 1 with fail
  have hb2 := HB2.out
  have hmz := HMZ.out
  have k0b := k0a
  have k1b := k1a
  have t0b := t0a
  have t1b := t1a
  have t2b := t2a
  have t3b := t3a
  clear HB2 HMZ k0a k1a t0a t1a t2a t3a
  have hgl2 := Nat.lt_of_lt_of_le hgl hb2.size
  have hpl2 := Nat.lt_of_lt_of_le hpl hb2.size
  obtain ⟨w2, hw2x⟩ : ∃ w2, w.alloc (.cells #[.int .i64 0, .string eB, .int .i64 0, .int .i64 0] 55) = w2 := ⟨_, rfl⟩
  rw [hw2x] at hb2 hmz k0b k1b t0b t1b t2b t3b hgl2 hpl2 ⊢
  have HB2 := Lib.hid hb2
  have HMZ := Lib.hid hmz
  obtain ⟨m0, m1, m2, m3⟩ := cc4 hmz
  have r0 : w2.frozen? ⟨w.heap.size, 0, none⟩ = false := by simp [World.frozen?, hmz]
  have r1 : w2.frozen? ⟨w.heap.size, 1, none⟩ = false := by simp [World.frozen?, hmz]
  have r2 : w2.frozen? ⟨w.heap.size, 2, none⟩ = false := by simp [World.frozen?, hmz]
  have r3 : w2.frozen? ⟨w.heap.size, 3, none⟩ = false := by simp [World.frozen?, hmz]
  clear hb2 hmz hw2x
  go_quiet (fail)
  go_upto_region 2 with fail
  go_region
  all_goals
   go_wp2_with fail
   obtain ⟨W9, hW9⟩ : ∃ W9, W9 = (((((w2.drewN (nq + 1)).setCell ⟨w.heap.size, 0, none⟩ (.int .i64 t.kind)).setCell ⟨w.heap.size, 1, none⟩ (.string (tx t))).setCell ⟨w.heap.size, 2, none⟩ (.int .i64 t.num)).setCell ⟨w.heap.size, 3, none⟩ (.int .i64 (t.at_ : Int))) := ⟨_, rfl⟩
   have h9 : W9.heap[w.heap.size]? = some (.cells #[.int .i64 t.kind, .string (tx t), .int .i64 t.num, .int .i64 (t.at_ : Int)] 55 (0, 0)) := by rw [hW9]; exact agg_set (by exact HMZ.out)
   obtain ⟨z0, z1, z2, z3⟩ := cc4 h9
   have HB9 : Hid (Below w.heap.size w W9) := Lib.hid (by rw [hW9]; exact setCells4_below (below_drewN HB2.out _) (Nat.le_refl _))
   rw [← hW9]
   clear hW9 h9
   refine bodyPost_ret (v := .agg #[.int .i64 t.kind, .string (tx t), .int .i64 t.num, .int .i64 (t.at_ : Int)]) (by simp [results, Try.results27, go_sem, z0, z1, z2, z3]) rfl ?_
   exact ⟨rfl, by first | exact HB9.out | exact HB9.out.drew⟩
 ·have ha : ahd T s 1 = T.getD (s.i + 1) noTok := by unfold ahd; rw [if_neg hlt]
  rw [ha]
  obtain ⟨t, ht⟩ : ∃ t, T.getD (s.i + 1) noTok = t := ⟨_, rfl⟩
  obtain ⟨g, c, hv, hgl, t0, t1, t2, t3⟩ := h.tok (j := s.i + 1) (by omega)
  rw [ht] at t0 t1 t2 t3 ⊢
  have hpl := lt_of_block h.box
  obtain ⟨n, hn⟩ : ∃ n, T.length = n := ⟨_, rfl⟩
  obtain ⟨i, hii⟩ : ∃ i, s.i = i := ⟨_, rfl⟩
  have hlen := hok.len
  have hpos := hok.pos
  have k1 : w.cell? ⟨pb, 1, none⟩ = some (.int .i64 (s.i : Int)) := h.cell rfl
  have k0 : w.cell? ⟨pb, 0, none⟩ = some v := h.cell rfl
  rw [hn] at hv hi hlen hpos hlt
  rw [hii] at k1 hi hlt
  rw [hii] at t0 t1 t2 t3
  subst hv
  obtain ⟨j, hj⟩ : ∃ j, i + 1 = j := ⟨_, rfl⟩
  skip
  rw [hj] at t0 t1 t2 t3
  have hw1 : wrap64 ((i : Int) + 1) = (j : Int) := by unfold wrap64; omega
  have hw0 : IntKind.i64.wrap (i : Int) = (i : Int) := by rw [IntKind.wrap_i64]; omega
  have hw2 : wrap64 ((n : Int) - 1) = (n : Int) - 1 := by unfold wrap64; omega
  have hw3 : IntKind.i64.wrap ((n : Int) - 1) = (n : Int) - 1 := by rw [IntKind.wrap_i64]; omega
  have hjn : (i : Int) + 1 = (j : Int) := by omega
  have d1 : decide ((n : Int) ≤ (j : Int)) = false := decide_eq_false (by omega)
  have d2 : decide (n ≤ j) = false := decide_eq_false (by omega)
  have g0 : (0 : Int) ≤ (j : Int) := by omega
  have g1 : (j : Int) < (n : Int) := by omega
  have HB2 : Hid (Below w.heap.size w (w.alloc (.cells #[.int .i64 0, .string eB, .int .i64 0, .int .i64 0] 55))) := Lib.hid ((Below.refl _ _).alloc (Nat.le_refl _) _)
  have HMZ : Hid ((w.alloc (.cells #[.int .i64 0, .string eB, .int .i64 0, .int .i64 0] 55)).heap[w.heap.size]? = some (.cells #[.int .i64 0, .string eB, .int .i64 0, .int .i64 0] 55 (0, 0))) := Lib.hid (heap_alloc_new w _)
  have k1a : (w.alloc (.cells #[.int .i64 0, .string eB, .int .i64 0, .int .i64 0] 55)).cell? ⟨pb, 1, none⟩ = _ := Lib.cell?_alloc_marked _ k1
  have k0a : (w.alloc (.cells #[.int .i64 0, .string eB, .int .i64 0, .int .i64 0] 55)).cell? ⟨pb, 0, none⟩ = _ := Lib.cell?_alloc_marked _ k0
  have t0a : (w.alloc (.cells #[.int .i64 0, .string eB, .int .i64 0, .int .i64 0] 55)).cell? ⟨g, j * 4, none⟩ = _ := Lib.cell?_alloc_marked _ t0
  have t1a : (w.alloc (.cells #[.int .i64 0, .string eB, .int .i64 0, .int .i64 0] 55)).cell? ⟨g, j * 4 + 1, none⟩ = _ := Lib.cell?_alloc_marked _ t1
  have t2a : (w.alloc (.cells #[.int .i64 0, .string eB, .int .i64 0, .int .i64 0] 55)).cell? ⟨g, j * 4 + 2, none⟩ = _ := Lib.cell?_alloc_marked _ t2
  have t3a : (w.alloc (.cells #[.int .i64 0, .string eB, .int .i64 0, .int .i64 0] 55)).cell? ⟨g, j * 4 + 3, none⟩ = _ := Lib.cell?_alloc_marked _ t3
  skip
  clear h hok ha ht hn hii hjn hi hlen hpos hlt k0 k1 t0 t1 t2 t3
  clear hj
  go_enter Try.func27, Try.ntmps27
  go_upto_region 1 with fail
  have hb2 := HB2.out
  have hmz := HMZ.out
  have k0b := k0a
  have k1b := k1a
  have t0b := t0a
  have t1b := t1a
  have t2b := t2a
  have t3b := t3a
  clear HB2 HMZ k0a k1a t0a t1a t2a t3a
  have hgl2 := Nat.lt_of_lt_of_le hgl hb2.size
  have hpl2 := Nat.lt_of_lt_of_le hpl hb2.size
  obtain ⟨w2, hw2x⟩ : ∃ w2, w.alloc (.cells #[.int .i64 0, .string eB, .int .i64 0, .int .i64 0] 55) = w2 := ⟨_, rfl⟩
  rw [hw2x] at hb2 hmz k0b k1b t0b t1b t2b t3b hgl2 hpl2 ⊢
  have HB2 := Lib.hid hb2
  have HMZ := Lib.hid hmz
  obtain ⟨m0, m1, m2, m3⟩ := cc4 hmz
  have r0 : w2.frozen? ⟨w.heap.size, 0, none⟩ = false := by simp [World.frozen?, hmz]
  have r1 : w2.frozen? ⟨w.heap.size, 1, none⟩ = false := by simp [World.frozen?, hmz]
  have r2 : w2.frozen? ⟨w.heap.size, 2, none⟩ = false := by simp [World.frozen?, hmz]
  have r3 : w2.frozen? ⟨w.heap.size, 3, none⟩ = false := by simp [World.frozen?, hmz]
  clear hb2 hmz hw2x
  go_quiet (fail)
  go_upto_region 3 with fail
  go_region
  all_goals
   go_wp2_with fail
   obtain ⟨W9, hW9⟩ : ∃ W9, W9 = (((((w2.drewN (nq + 1)).setCell ⟨w.heap.size, 0, none⟩ (.int .i64 t.kind)).setCell ⟨w.heap.size, 1, none⟩ (.string (tx t))).setCell ⟨w.heap.size, 2, none⟩ (.int .i64 t.num)).setCell ⟨w.heap.size, 3, none⟩ (.int .i64 (t.at_ : Int))) := ⟨_, rfl⟩
   have h9 : W9.heap[w.heap.size]? = some (.cells #[.int .i64 t.kind, .string (tx t), .int .i64 t.num, .int .i64 (t.at_ : Int)] 55 (0, 0)) := by rw [hW9]; exact agg_set (by exact HMZ.out)
   obtain ⟨z0, z1, z2, z3⟩ := cc4 h9
   have HB9 : Hid (Below w.heap.size w W9) := Lib.hid (by rw [hW9]; exact setCells4_below (below_drewN HB2.out _) (Nat.le_refl _))
   rw [← hW9]
   clear hW9 h9
   refine bodyPost_ret (v := .agg #[.int .i64 t.kind, .string (tx t), .int .i64 t.num, .int .i64 (t.at_ : Int)]) (by simp [results, Try.results27, go_sem, z0, z1, z2, z3]) rfl ?_
   exact ⟨rfl, by first | exact HB9.out | exact HB9.out.drew⟩
end Go.Proofs.Ytnojndgmgkgnpaa
/- Chapter 10: the reference's parser: what it asks of the token ahead. -/
namespace Go.Proofs.Ytnojndgmgkgnpaa
open Go.ChangeShapes Go.WideShapes Go.ChangeAt Go.RowKit Go.Deep Go.Joins Go.Maps
set_option linter.unusedVariables false
set_option linter.unusedSimpArgs false
def boxP (v : Value) (s : PSt) : Array Value := #[v, .int .i64 (s.i : Int), .int .i64 s.deep, .int .i64 s.e, .int .i64 s.at_]
theorem PW.put {w : World} {pb : Nat} {v : Value} {T : Tks} {s : PSt} {s' : PSt} (h : PW w pb v T s) (k : Nat) (x : Value) (hb : (boxP v s).set! k x = boxP v s') (hl : s'.i ≤ T.length + 1) : PT pb v T w (w.setCell ⟨pb, k, none⟩ x) s' := by
 have ht : Turns (atP pb) w (w.setCell ⟨pb, k, none⟩ x) := (Turns.refl _ _).setCell ⟨pb, k, none⟩ x (.inl rfl)
 refine ⟨⟨?_, ownsRow_same h.row ht.size (fun j hj => ht.block j (World.ownsRow.lt h.row j hj).2 (h.ne j hj)), hl⟩, ht⟩
 have hbx : w.heap[pb]? = some (.cells (boxP v s) 50 (0, 0)) := h.box
 rw [heap_setCell_same w pb k _ _ _ hbx]
 show some (Obj.cells ((boxP v s).set! k x) _ _) = some (Obj.cells (boxP v s') _ _)
 rw [hb]
theorem ahead0_at {ws w1 w : World} {pb : Nat} {v : Value} {T : Tks} {s : PSt} (h : PT pb v T ws w1 s) (hb : Below w1.heap.size w1 w) (hok : TokOk T) {t : Lx.ATok} (ht : ahd T s 0 = t) : Calls Try.prog 27 #[.pointer (some ⟨pb, 0, none⟩), .int .i64 0] w fun e w' => e = .returned (.agg #[.int .i64 t.kind, .string (tx t), .int .i64 t.num, .int .i64 (t.at_ : Int)]) ∧ PT pb v T ws w' (s) := by
 have h2 := h.below hb
 refine (ahead0_any h2.1 hok).mono ?_
 rintro e w' ⟨he, hc⟩
 exact ⟨by rw [he, ← ht]; rfl, h2.below hc⟩
theorem ahead1_at {ws w1 w : World} {pb : Nat} {v : Value} {T : Tks} {s : PSt} (h : PT pb v T ws w1 s) (hb : Below w1.heap.size w1 w) (hok : TokOk T) {t : Lx.ATok} (ht : ahd T s 1 = t) : Calls Try.prog 27 #[.pointer (some ⟨pb, 0, none⟩), .int .i64 1] w fun e w' => e = .returned (.agg #[.int .i64 t.kind, .string (tx t), .int .i64 t.num, .int .i64 (t.at_ : Int)]) ∧ PT pb v T ws w' (s) := by
 have h2 := h.below hb
 refine (ahead1_any h2.1 hok).mono ?_
 rintro e w' ⟨he, hc⟩
 exact ⟨by rw [he, ← ht]; rfl, h2.below hc⟩
set_option maxRecDepth 100000 in
set_option maxHeartbeats 16000000 in
theorem pfail_any {w : World} {pb : Nat} {v : Value} {T : Tks} {s : PSt} (h : PW w pb v T s) (t : Lx.ATok) (x : Int) : Calls Try.prog 25 #[.pointer (some ⟨pb, 0, none⟩), .agg #[.int .i64 t.kind, .string (tx t), .int .i64 t.num, .int .i64 (t.at_ : Int)], .int .i64 x] w fun e w' => e = .returned (.tuple #[]) ∧ PT pb v T w w' (failT s t x) := by
 have HA0 : Hid (PW (w.alloc (.cells #[.int .i64 t.kind, .string (tx t), .int .i64 t.num, .int .i64 (t.at_ : Int)] 55)) pb v T s ∧ Below w.heap.size w (w.alloc (.cells #[.int .i64 t.kind, .string (tx t), .int .i64 t.num, .int .i64 (t.at_ : Int)] 55)) ∧ (w.alloc (.cells #[.int .i64 t.kind, .string (tx t), .int .i64 t.num, .int .i64 (t.at_ : Int)] 55)).heap[w.heap.size]? = some (.cells #[.int .i64 t.kind, .string (tx t), .int .i64 t.num, .int .i64 (t.at_ : Int)] 55 (0, 0)) ∧ pb ≠ w.heap.size) := Lib.hid ⟨h.below ((Below.refl _ _).alloc (Nat.le_refl _) _), (Below.refl _ _).alloc (Nat.le_refl _) _, heap_alloc_new w _, by have := lt_of_block h.box; omega⟩
 clear h
 go_enter Try.func25, Try.ntmps25
 go_upto_region 1 with fail
 have hx := HA0.out
 obtain ⟨wa, hwa⟩ : ∃ wa, w.alloc (.cells #[.int .i64 t.kind, .string (tx t), .int .i64 t.num, .int .i64 (t.at_ : Int)] 55) = wa := ⟨_, rfl⟩
 rw [hwa] at hx ⊢
 clear hwa
 obtain ⟨ha, hb, hm, hne⟩ := hx
 have m3 : wa.cell? ⟨w.heap.size, 3, none⟩ = some (.int .i64 (t.at_ : Int)) := cell_in hm rfl
 have k3 : wa.cell? ⟨pb, 3, none⟩ = some (.int .i64 s.e) := ha.cell rfl
 have f3 := ha.free 3
 have k4 : wa.cell? ⟨pb, 4, none⟩ = some (.int .i64 s.at_) := ha.cell rfl
 have f4 := ha.free 4
 have HA := Lib.hid ha
 have HB := Lib.hid hb
 clear ha hb hm
 by_cases he : s.e = 0
 ·have HE := Lib.hid he
  rw [he] at k3
  clear he
  go_wp2_with fail
  go_returns
  have h1 : PT pb v T wa (wa.setCell ⟨pb, 3, none⟩ (.int .i64 x)) { s with e := x } := HA.out.put 3 _ rfl HA.out.le
  have h2 : PT pb v T (wa.setCell ⟨pb, 3, none⟩ (.int .i64 x)) ((wa.setCell ⟨pb, 3, none⟩ (.int .i64 x)).setCell ⟨pb, 4, none⟩ (.int .i64 (t.at_ : Int))) { s with e := x, at_ := (t.at_ : Int) } := h1.1.put 4 _ rfl HA.out.le
  rw [show failT s t x = { s with e := x, at_ := (t.at_ : Int) } from by unfold failT; rw [if_pos HE.out]]
  exact ⟨rfl, h2.1, ((Turns.of_below HB.out).trans h1.2).trans h2.2⟩
 ·have HE := Lib.hid he
  have e1 : (s.e == 0) = false := by simpa using he
  clear he
  go_wp2_with fail
  go_returns
  rw [show failT s t x = s from by unfold failT; rw [if_neg HE.out]]
  exact ⟨rfl, HA.out, Turns.of_below HB.out⟩
theorem pfail_at {ws w1 w : World} {pb : Nat} {v : Value} {T : Tks} {s : PSt} (h : PT pb v T ws w1 s) (hb : Below w1.heap.size w1 w) (t : Lx.ATok) (x : Int) : Calls Try.prog 25 #[.pointer (some ⟨pb, 0, none⟩), .agg #[.int .i64 t.kind, .string (tx t), .int .i64 t.num, .int .i64 (t.at_ : Int)], .int .i64 x] w fun e w' => e = .returned (.tuple #[]) ∧ PT pb v T ws w' (failT s t x) := by
 have h2 := h.below hb
 refine (pfail_any h2.1 t x).mono ?_
 rintro e w' ⟨he, hc⟩
 exact ⟨he, h2.go hc⟩
set_option maxRecDepth 100000 in
set_option maxHeartbeats 16000000 in
theorem is_any {w : World} {pb : Nat} {v : Value} {T : Tks} {s : PSt} (h : PW w pb v T s) (hok : TokOk T) (k : Int) (text : ByteArray) : Calls Try.prog 22 #[.pointer (some ⟨pb, 0, none⟩), .int .i64 k, .string text] w fun e w' => e = .returned (.bool (isT T s k text)) ∧ PT pb v T w w' (s) := by
 have HH := Lib.hid h
 have HOK := Lib.hid hok
 obtain ⟨t, ht⟩ : ∃ t, ahd T s 0 = t := ⟨_, rfl⟩
 have HT := Lib.hid ht
 have HV : Hid (isT T s k text = (s.e == 0 && (t.kind == k && (text.toList == [] || (tx t).toList == text.toList)))) := Lib.hid (by unfold isT; rw [ht])
 clear h hok ht
 go_enter Try.func22, Try.ntmps22
 go_upto_region 2 with (first | (go_at_call 27; (with_reducible refine (ahead0_at HH.out.pt bel HOK.out HT.out).mono ?_); rintro e w2 ⟨rfl, hx⟩; have HX2 := Lib.hid hx; clear hx))
 have hb3 : Below w2.heap.size w2 (w2.alloc (.cells #[.int .i64 t.kind, .string (tx t), .int .i64 t.num, .int .i64 (t.at_ : Int)] 55)) := (Below.refl _ _).alloc (Nat.le_refl _) _
 have hx3 := HX2.out.below hb3
 have HX3 := Lib.hid hx3
 have hm := heap_alloc_new w2 (.cells #[.int .i64 t.kind, .string (tx t), .int .i64 t.num, .int .i64 (t.at_ : Int)] 55)
 have k3 : (w2.alloc (.cells #[.int .i64 t.kind, .string (tx t), .int .i64 t.num, .int .i64 (t.at_ : Int)] 55)).cell? ⟨pb, 3, none⟩ = some (.int .i64 s.e) := hx3.1.cell rfl
 have m0 : (w2.alloc (.cells #[.int .i64 t.kind, .string (tx t), .int .i64 t.num, .int .i64 (t.at_ : Int)] 55)).cell? ⟨w2.heap.size, 0, none⟩ = some (.int .i64 t.kind) := cell_in hm rfl
 have m1 : (w2.alloc (.cells #[.int .i64 t.kind, .string (tx t), .int .i64 t.num, .int .i64 (t.at_ : Int)] 55)).cell? ⟨w2.heap.size, 1, none⟩ = some (.string (tx t)) := cell_in hm rfl
 obtain ⟨w3, hw3⟩ : ∃ w3, w2.alloc (.cells #[.int .i64 t.kind, .string (tx t), .int .i64 t.num, .int .i64 (t.at_ : Int)] 55) = w3 := ⟨_, rfl⟩
 rw [hw3] at k3 m0 m1 HX3 ⊢
 clear hb3 hx3 hm hw3
 cases b1 : s.e == 0 with
 | false =>
  go_wp2_with fail
  go_ret
  exact ⟨by rw [HV.out, b1]; rfl, HX3.out⟩
 | true =>
  cases b2 : t.kind == k with
  | false =>
   go_wp2_with fail
   go_ret
   exact ⟨by rw [HV.out, b1, b2]; rfl, HX3.out⟩
  | true =>
   cases b3 : text.toList == [] with
   | true =>
    have b5 : text.toList = [] := beq_iff_eq.1 b3
    go_wp2_with fail
    go_ret
    exact ⟨by rw [HV.out, b1, b2, b3]; rfl, HX3.out⟩
   | false =>
    have b5 : ¬ text.toList = [] := beq_no b3
    cases b4 : (tx t).toList == text.toList with
    | true =>
     go_wp2_with fail
     go_ret
     exact ⟨by rw [HV.out, b1, b2, b3, b4]; rfl, HX3.out⟩
    | false =>
     go_wp2_with fail
     go_ret
     exact ⟨by rw [HV.out, b1, b2, b3, b4]; rfl, HX3.out⟩
theorem is_at {ws w1 w : World} {pb : Nat} {v : Value} {T : Tks} {s : PSt} (h : PT pb v T ws w1 s) (hb : Below w1.heap.size w1 w) (hok : TokOk T) (k : Int) (text : ByteArray) : Calls Try.prog 22 #[.pointer (some ⟨pb, 0, none⟩), .int .i64 k, .string text] w fun e w' => e = .returned (.bool (isT T s k text)) ∧ PT pb v T ws w' (s) := by
 have h2 := h.below hb
 refine (is_any h2.1 hok k text).mono ?_
 rintro e w' ⟨he, hc⟩
 exact ⟨he, h2.go hc⟩
theorem isT_lt {T : Tks} {s : PSt} {k : Int} {text : ByteArray} (h : isT T s k text = true) (hok : TokOk T) (hk : k ≠ 0) : s.i < T.length := by
 unfold isT at h
 simp only [Bool.and_eq_true, beq_iff_eq] at h
 rcases Nat.lt_or_ge s.i T.length with q | q
 ·exact q
 ·have := h.2.1
  unfold ahd at this
  rw [if_pos (by omega), hok.last] at this
  exact absurd this.symm hk
theorem ahd_mem {T : Tks} {s : PSt} {k : Nat} (hok : TokOk T) : ahd T s k ∈ T := by
 have hp := hok.pos
 have hg : ∀ j, j < T.length → T.getD j noTok ∈ T := fun j hj => by
  rw [List.getD_eq_getElem?_getD, List.getElem?_eq_getElem hj]
  exact List.getElem_mem hj
 unfold ahd
 split
 ·exact hg _ (by omega)
 ·exact hg _ (by omega)
/-- a block of one's own is stored into: the parser stays -/
theorem PT.own {w w1 w2 w3 : World} {pb b : Nat} {v : Value} {T : Tks} {s : PSt} (h01 : Below w.heap.size w w1) (h : PT pb v T w1 w2 s) (ht : Turns (fun k => k = b) w2 w3) (hb : w.heap.size ≤ b) (hne : pb ≠ b) (hv : v.ownBlock ≠ some b) : PT pb v T w w3 s := by
 refine ⟨⟨(ht.block _ (lt_of_block h.1.box) (fun e => hne e)).trans h.1.box, ownsRow_same h.1.row ht.size (fun k hk => ht.block k (World.ownsRow.lt h.1.row k hk).2 (fun e => hv (by rw [← e]; exact hk))), h.1.le⟩, ?_⟩
 have h2 : Turns (atP pb) w w2 := (Turns.of_below h01).trans h.2
 refine ⟨ht.os.trans h2.os, ht.tape.trans h2.tape, ht.output.trans h2.output, Nat.le_trans h2.size ht.size, fun k hk hs => (ht.block k (Nat.lt_of_lt_of_le hk h2.size) (fun e => by omega)).trans (h2.block k hk hs)⟩
theorem PW.old {w : World} {pb : Nat} {v : Value} {T : Tks} {s : PSt} (h : PW w pb v T s) : v.ownBlock ≠ some w.heap.size := fun e => by
 have := (World.ownsRow.lt h.row _ e).2
 omega
set_option maxRecDepth 100000 in
set_option maxHeartbeats 16000000 in
theorem take_any {w : World} {pb : Nat} {v : Value} {T : Tks} {s : PSt} (h : PW w pb v T s) (hok : TokOk T) (hi : s.i ≤ T.length) {t : Lx.ATok} (ht : ahd T s 0 = t) : Calls Try.prog 23 #[.pointer (some ⟨pb, 0, none⟩)] w fun e w' => e = .returned (.agg #[.int .i64 t.kind, .string (tx t), .int .i64 t.num, .int .i64 (t.at_ : Int)]) ∧ PT pb v T w w' (takeT s) := by
 have HOK := Lib.hid hok
 have HT := Lib.hid ht
 have HOLD := Lib.hid h.old
 have HI : Hid (s.i ≤ T.length ∧ s.i ≤ 100000) := Lib.hid ⟨hi, by have := hok.len; omega⟩
 have hwi : wrap64 ((s.i : Int) + 1) = (s.i : Int) + 1 := by have := hok.len; unfold wrap64; omega
 have hwj : IntKind.i64.wrap ((s.i : Int) + 1) = (s.i : Int) + 1 := by have := hok.len; rw [IntKind.wrap_i64]; omega
 clear hok hi ht
 have H0 : Hid (PW (w.alloc (.cells #[.int .i64 0, .string eB, .int .i64 0, .int .i64 0] 55)) pb v T s ∧ Below w.heap.size w (w.alloc (.cells #[.int .i64 0, .string eB, .int .i64 0, .int .i64 0] 55)) ∧ (w.alloc (.cells #[.int .i64 0, .string eB, .int .i64 0, .int .i64 0] 55)).heap[w.heap.size]? = some (.cells #[.int .i64 0, .string eB, .int .i64 0, .int .i64 0] 55 (0, 0)) ∧ pb ≠ w.heap.size) := Lib.hid ⟨h.below ((Below.refl _ _).alloc (Nat.le_refl _) _), (Below.refl _ _).alloc (Nat.le_refl _) _, heap_alloc_new w _, by have := lt_of_block h.box; omega⟩
 clear h
 go_enter Try.func23, Try.ntmps23
 go_upto_region 1 with fail
 have h1 := H0.out
 obtain ⟨w1, hw1⟩ : ∃ w1, w.alloc (.cells #[.int .i64 0, .string eB, .int .i64 0, .int .i64 0] 55) = w1 := ⟨_, rfl⟩
 rw [hw1] at h1 ⊢
 clear hw1
 have hzl := lt_of_block h1.2.2.1
 have hne := h1.2.2.2
 have H1 := Lib.hid h1
 clear h1 H0
 go_upto_region 2 with (first | (go_at_call 27; (with_reducible refine (ahead0_at H1.out.1.pt bel HOK.out HT.out).mono ?_); rintro e w2 ⟨rfl, hx⟩; have HX2 := Lib.hid hx; clear hx))
 have hb3 : Below w2.heap.size w2 (w2.alloc (.cells #[.int .i64 t.kind, .string (tx t), .int .i64 t.num, .int .i64 (t.at_ : Int)] 55)) := (Below.refl _ _).alloc (Nat.le_refl _) _
 have hx3 := HX2.out.below hb3
 have hm := heap_alloc_new w2 (.cells #[.int .i64 t.kind, .string (tx t), .int .i64 t.num, .int .i64 (t.at_ : Int)] 55)
 have hz := (hx3.2.block w.heap.size hzl (fun e => hne e.symm)).trans H1.out.2.2.1
 have hnn : w2.heap.size ≠ pb := by have := lt_of_block HX2.out.1.box; omega
 obtain ⟨w3, hw3⟩ : ∃ w3, w2.alloc (.cells #[.int .i64 t.kind, .string (tx t), .int .i64 t.num, .int .i64 (t.at_ : Int)] 55) = w3 := ⟨_, rfl⟩
 rw [hw3] at hx3 hm hz ⊢
 have hwz : w2.heap.size ≠ w.heap.size := by have := HX2.out.2.size; omega
 have k1 : w3.cell? ⟨pb, 1, none⟩ = some (.int .i64 (s.i : Int)) := hx3.1.cell rfl
 have f1 := hx3.1.free 1
 have h4 : PT pb v T w1 (w3.setCell ⟨pb, 1, none⟩ (.int .i64 ((s.i : Int) + 1))) (takeT s) := hx3.go (hx3.1.put 1 _ (by simp [boxP, takeT]) (by show s.i + 1 ≤ T.length + 1; have := HI.out.1; omega))
 have hm4 := (Below.heap_setCell w3 ⟨pb, 1, none⟩ (.int .i64 ((s.i : Int) + 1)) w2.heap.size (fun e => hnn e)).trans hm
 have hz4 := (Below.heap_setCell w3 ⟨pb, 1, none⟩ (.int .i64 ((s.i : Int) + 1)) w.heap.size (fun e => hne e.symm)).trans hz
 clear hb3 hw3 hm hz hx3
 go_upto_region 3 with fail
 obtain ⟨w4, hw4⟩ : ∃ w4, w3.setCell ⟨pb, 1, none⟩ (.int .i64 ((s.i : Int) + 1)) = w4 := ⟨_, rfl⟩
 rw [hw4] at h4 hm4 hz4 ⊢
 have mb := hm4
 obtain ⟨m0, m1, m2, m3⟩ := cc4 mb
 have nb := hz4
 obtain ⟨n0, n1, n2, n3, nr0, nr1, nr2, nr3⟩ := cf4 nb
 have H4 := Lib.hid h4
 clear hw4 h4 hm4 mb nb k1 f1 hnn hwz
 go_wp2_with fail
 obtain ⟨W9, hW9⟩ : ∃ W9, W9 = ((((w4.setCell ⟨w.heap.size, 0, none⟩ (.int .i64 t.kind)).setCell ⟨w.heap.size, 1, none⟩ (.string (tx t))).setCell ⟨w.heap.size, 2, none⟩ (.int .i64 t.num)).setCell ⟨w.heap.size, 3, none⟩ (.int .i64 (t.at_ : Int))) := ⟨_, rfl⟩
 have h9 : W9.heap[w.heap.size]? = some (.cells #[.int .i64 t.kind, .string (tx t), .int .i64 t.num, .int .i64 (t.at_ : Int)] 55 (0, 0)) := by rw [hW9]; exact agg_set hz4
 obtain ⟨z0, z1, z2, z3⟩ := cc4 h9
 have HT9 : Hid (Turns (fun k => k = w.heap.size) w4 W9) := Lib.hid (by rw [hW9]; exact four_turns (X := fun k => k = w.heap.size) (Turns.refl _ _) w.heap.size rfl)
 rw [← hW9]
 clear hW9 h9
 refine bodyPost_ret (v := .agg #[.int .i64 t.kind, .string (tx t), .int .i64 t.num, .int .i64 (t.at_ : Int)]) (by simp [results, Try.results23, go_sem, z0, z1, z2, z3]) rfl ?_
 exact ⟨rfl, PT.own H1.out.2.1 H4.out HT9.out (Nat.le_refl _) H1.out.2.2.2 HOLD.out⟩
theorem take_at {ws w1 w : World} {pb : Nat} {v : Value} {T : Tks} {s : PSt} (h : PT pb v T ws w1 s) (hb : Below w1.heap.size w1 w) (hok : TokOk T) (hi : s.i ≤ T.length) {t : Lx.ATok} (ht : ahd T s 0 = t) : Calls Try.prog 23 #[.pointer (some ⟨pb, 0, none⟩)] w fun e w' => e = .returned (.agg #[.int .i64 t.kind, .string (tx t), .int .i64 t.num, .int .i64 (t.at_ : Int)]) ∧ PT pb v T ws w' (takeT s) := by
 have h2 := h.below hb
 refine (take_any h2.1 hok hi ht).mono ?_
 rintro e w' ⟨he, hc⟩
 exact ⟨he, h2.go hc⟩
set_option maxRecDepth 100000 in
set_option maxHeartbeats 16000000 in
theorem need_any {w : World} {pb : Nat} {v : Value} {T : Tks} {s : PSt} (h : PW w pb v T s) (hok : TokOk T) (hi : s.i ≤ T.length) (k : Int) (text : ByteArray) {t9 : Lx.ATok} {s9 : PSt} (hn : needT T s k text = (t9, s9)) : Calls Try.prog 17 #[.pointer (some ⟨pb, 0, none⟩), .int .i64 k, .string text] w fun e w' => e = .returned (.agg #[.int .i64 t9.kind, .string (tx t9), .int .i64 t9.num, .int .i64 (t9.at_ : Int)]) ∧ PT pb v T w w' (s9) := by
 have HOK := Lib.hid hok
 obtain ⟨t, ht⟩ : ∃ t, ahd T s 0 = t := ⟨_, rfl⟩
 have HT := Lib.hid ht
 have HOLD := Lib.hid h.old
 have HI := Lib.hid hi
 have HND : Hid (needT T s k text = if isT T s k text then (t, takeT s) else (noTok, failT s t 13)) := Lib.hid (by unfold needT; rw [ht])
 have HN9 := Lib.hid hn
 obtain ⟨b, hb⟩ : ∃ b, isT T s k text = b := ⟨_, rfl⟩
 have HIS := Lib.hid hb
 clear hok hi ht hn
 have H0 : Hid (PW (w.alloc (.cells #[.int .i64 0, .string eB, .int .i64 0, .int .i64 0] 55)) pb v T s ∧ Below w.heap.size w (w.alloc (.cells #[.int .i64 0, .string eB, .int .i64 0, .int .i64 0] 55)) ∧ (w.alloc (.cells #[.int .i64 0, .string eB, .int .i64 0, .int .i64 0] 55)).heap[w.heap.size]? = some (.cells #[.int .i64 0, .string eB, .int .i64 0, .int .i64 0] 55 (0, 0)) ∧ pb ≠ w.heap.size) := Lib.hid ⟨h.below ((Below.refl _ _).alloc (Nat.le_refl _) _), (Below.refl _ _).alloc (Nat.le_refl _) _, heap_alloc_new w _, by have := lt_of_block h.box; omega⟩
 clear h
 go_enter Try.func17, Try.ntmps17
 go_upto_region 1 with fail
 have h1 := H0.out
 obtain ⟨w1, hw1⟩ : ∃ w1, w.alloc (.cells #[.int .i64 0, .string eB, .int .i64 0, .int .i64 0] 55) = w1 := ⟨_, rfl⟩
 rw [hw1] at h1 ⊢
 clear hw1
 have hzl := lt_of_block h1.2.2.1
 have hne := h1.2.2.2
 have H1 := Lib.hid h1
 clear h1 H0
 cases b with
 | true =>
  have hq : t9 = t ∧ s9 = takeT s := by
   have h9 := HN9.out
   rw [HND.out, if_pos hb] at h9
   cases h9; exact ⟨rfl, rfl⟩
  obtain ⟨rfl, rfl⟩ := hq
  clear hb
  go_wp2_with (first | (go_at_call 22; (with_reducible refine (is_at H1.out.1.pt bel HOK.out k text).mono ?_); rw [HIS.out]; rintro e w2 ⟨rfl, hx⟩; have HX2 := Lib.hid hx; clear hx) | (go_at_call 23; (with_reducible refine (take_at HX2.out bel HOK.out HI.out HT.out).mono ?_); rintro e w4 ⟨rfl, hx⟩; have hz4 := (hx.2.block w.heap.size hzl (fun e => hne e.symm)).trans H1.out.2.2.1; obtain ⟨n0, n1, n2, n3, nr0, nr1, nr2, nr3⟩ := cf4 hz4; have HX4 := Lib.hid hx; clear hx))
  obtain ⟨W9, hW9⟩ : ∃ W9, W9 = ((((w4.setCell ⟨w.heap.size, 0, none⟩ (.int .i64 t9.kind)).setCell ⟨w.heap.size, 1, none⟩ (.string (tx t9))).setCell ⟨w.heap.size, 2, none⟩ (.int .i64 t9.num)).setCell ⟨w.heap.size, 3, none⟩ (.int .i64 (t9.at_ : Int))) := ⟨_, rfl⟩
  have h9 : W9.heap[w.heap.size]? = some (.cells #[.int .i64 t9.kind, .string (tx t9), .int .i64 t9.num, .int .i64 (t9.at_ : Int)] 55 (0, 0)) := by rw [hW9]; exact agg_set hz4
  obtain ⟨z0, z1, z2, z3⟩ := cc4 h9
  have HT9 : Hid (Turns (fun k => k = w.heap.size) w4 W9) := Lib.hid (by rw [hW9]; exact four_turns (X := fun k => k = w.heap.size) (Turns.refl _ _) w.heap.size rfl)
  rw [← hW9]
  clear hW9 h9
  refine bodyPost_ret (v := .agg #[.int .i64 t9.kind, .string (tx t9), .int .i64 t9.num, .int .i64 (t9.at_ : Int)]) (by simp [results, Try.results17, go_sem, z0, z1, z2, z3]) rfl ?_
  exact ⟨rfl, PT.own H1.out.2.1 HX4.out HT9.out (Nat.le_refl _) H1.out.2.2.2 HOLD.out⟩
 | false =>
  have hq : t9 = noTok ∧ s9 = failT s t 13 := by
   have h9 := HN9.out
   rw [HND.out, if_neg (by rw [hb]; decide)] at h9
   cases h9; exact ⟨rfl, rfl⟩
  obtain ⟨rfl, rfl⟩ := hq
  clear hb
  go_wp2_with (first | (go_at_call 22; (with_reducible refine (is_at H1.out.1.pt bel HOK.out k text).mono ?_); rw [HIS.out]; rintro e w2 ⟨rfl, hx⟩; have HX2 := Lib.hid hx; clear hx) | (go_at_call 27; (with_reducible refine (ahead0_at HX2.out bel HOK.out HT.out).mono ?_); rintro e w3 ⟨rfl, hx⟩; have HX3 := Lib.hid hx; clear hx) | (go_at_call 25; (with_reducible refine (pfail_at HX3.out bel t 13).mono ?_); rintro e w4 ⟨rfl, hx⟩; have hz4 := (hx.2.block w.heap.size hzl (fun e => hne e.symm)).trans H1.out.2.2.1; obtain ⟨n0, n1, n2, n3, nr0, nr1, nr2, nr3⟩ := cf4 hz4; have HX4 := Lib.hid hx; clear hx))
  obtain ⟨W9, hW9⟩ : ∃ W9, W9 = ((((w4.setCell ⟨w.heap.size, 0, none⟩ (.int .i64 0)).setCell ⟨w.heap.size, 1, none⟩ (.string eB)).setCell ⟨w.heap.size, 2, none⟩ (.int .i64 0)).setCell ⟨w.heap.size, 3, none⟩ (.int .i64 0)) := ⟨_, rfl⟩
  have h9 : W9.heap[w.heap.size]? = some (.cells #[.int .i64 0, .string eB, .int .i64 0, .int .i64 0] 55 (0, 0)) := by rw [hW9]; exact agg_set hz4
  obtain ⟨z0, z1, z2, z3⟩ := cc4 h9
  have HT9 : Hid (Turns (fun k => k = w.heap.size) w4 W9) := Lib.hid (by rw [hW9]; exact four_turns (X := fun k => k = w.heap.size) (Turns.refl _ _) w.heap.size rfl)
  rw [← hW9]
  clear hW9 h9
  refine bodyPost_ret (v := .agg #[.int .i64 0, .string eB, .int .i64 0, .int .i64 0]) (by simp [results, Try.results17, go_sem, z0, z1, z2, z3]) rfl ?_
  exact ⟨rfl, PT.own H1.out.2.1 HX4.out HT9.out (Nat.le_refl _) H1.out.2.2.2 HOLD.out⟩
theorem need_at {ws w1 w : World} {pb : Nat} {v : Value} {T : Tks} {s : PSt} (h : PT pb v T ws w1 s) (hb : Below w1.heap.size w1 w) (hok : TokOk T) (hi : s.i ≤ T.length) (k : Int) (text : ByteArray) {t9 : Lx.ATok} {s9 : PSt} (hn : needT T s k text = (t9, s9)) : Calls Try.prog 17 #[.pointer (some ⟨pb, 0, none⟩), .int .i64 k, .string text] w fun e w' => e = .returned (.agg #[.int .i64 t9.kind, .string (tx t9), .int .i64 t9.num, .int .i64 (t9.at_ : Int)]) ∧ PT pb v T ws w' (s9) := by
 have h2 := h.below hb
 refine (need_any h2.1 hok hi k text hn).mono ?_
 rintro e w' ⟨he, hc⟩
 exact ⟨he, h2.go hc⟩
end Go.Proofs.Ytnojndgmgkgnpaa
/- Chapter 10: the reference's parser: a bracket; a number, a string, a symbol. -/
namespace Go.Proofs.Ytnojndgmgkgnpaa
open Go.ChangeShapes Go.WideShapes Go.ChangeAt Go.RowKit Go.Deep Go.Joins Go.Maps
set_option linter.unusedVariables false
set_option linter.unusedSimpArgs false
set_option maxRecDepth 100000 in
set_option maxHeartbeats 16000000 in
theorem open_any {w : World} {pb : Nat} {v : Value} {T : Tks} {s : PSt} (h : PW w pb v T s) (hok : TokOk T) (hi : s.i ≤ T.length) : Calls Try.prog 50 #[.pointer (some ⟨pb, 0, none⟩)] w fun e w' => e = .returned (.bool (openT T s).1) ∧ PT pb v T w w' ((openT T s).2) := by
 have HOK := Lib.hid hok
 obtain ⟨t, ht⟩ : ∃ t, ahd T s 0 = t := ⟨_, rfl⟩
 have HT := Lib.hid ht
 have HI := Lib.hid hi
 have HH := Lib.hid h
 have HO : Hid (openT T s = if s.deep = 20 then (false, failT (takeT s) t 14) else (true, { takeT s with deep := wrp (s.deep + 1) })) := Lib.hid (by unfold openT; rw [ht])
 clear hok ht hi h
 go_enter Try.func50, Try.ntmps50
 go_upto_region 2 with (first | (go_at_call 23; (with_reducible refine (take_at HH.out.pt bel HOK.out HI.out HT.out).mono ?_); rintro e w2 ⟨rfl, hx⟩; have HX2 := Lib.hid hx; clear hx))
 have hx3 := HX2.out.below ((Below.refl _ _).alloc (Nat.le_refl _) (.cells #[.int .i64 t.kind, .string (tx t), .int .i64 t.num, .int .i64 (t.at_ : Int)] 55))
 have hm := heap_alloc_new w2 (.cells #[.int .i64 t.kind, .string (tx t), .int .i64 t.num, .int .i64 (t.at_ : Int)] 55)
 have hpl := lt_of_block HX2.out.1.box
 obtain ⟨w3, hw3⟩ : ∃ w3, w2.alloc (.cells #[.int .i64 t.kind, .string (tx t), .int .i64 t.num, .int .i64 (t.at_ : Int)] 55) = w3 := ⟨_, rfl⟩
 rw [hw3] at hx3 hm ⊢
 have mb := hm
 obtain ⟨m0, m1, m2, m3⟩ := cc4 mb
 have k2 : w3.cell? ⟨pb, 2, none⟩ = some (.int .i64 s.deep) := hx3.1.cell rfl
 have f2 := hx3.1.free 2
 have HX3 := Lib.hid hx3
 clear hw3 hm mb hx3
 by_cases hd : s.deep = 20
 ·have HE : Hid (openT T s = (false, failT (takeT s) t 14)) := Lib.hid (by rw [HO.out, if_pos hd])
  rw [hd] at k2
  clear hd
  go_wp2_with (first | (go_at_call 25; (with_reducible refine (pfail_at HX3.out bel t 14).mono ?_); rintro e w4 ⟨rfl, hx⟩; have HX4 := Lib.hid hx; clear hx))
  go_ret
  rw [HE.out]
  exact ⟨rfl, HX4.out⟩
 ·have HE : Hid (openT T s = (true, { takeT s with deep := wrp (s.deep + 1) })) := Lib.hid (by rw [HO.out, if_neg hd])
  have e1 : (s.deep == 20) = false := by simpa using hd
  have e2 : ¬ s.deep = 20 := hd
  clear hd
  go_wp2_with fail
  go_ret
  rw [HE.out]
  exact ⟨rfl, HX3.out.go (HX3.out.1.put 2 _ rfl HX3.out.1.le)⟩
theorem tfld0 : ∀ (a b c d : Value) (w : World), (Instr.field 55 (.agg #[a, b, c, d]) 0).run Try.prog w = .ok a w := fun _ _ _ _ _ => by kernel_rfl
theorem tfld1 : ∀ (a b c d : Value) (w : World), (Instr.field 55 (.agg #[a, b, c, d]) 1).run Try.prog w = .ok b w := fun _ _ _ _ _ => by kernel_rfl
theorem tfld2 : ∀ (a b c d : Value) (w : World), (Instr.field 55 (.agg #[a, b, c, d]) 2).run Try.prog w = .ok c w := fun _ _ _ _ _ => by kernel_rfl
theorem tfld3 : ∀ (a b c d : Value) (w : World), (Instr.field 55 (.agg #[a, b, c, d]) 3).run Try.prog w = .ok d w := fun _ _ _ _ _ => by kernel_rfl
set_option maxRecDepth 100000 in
set_option maxHeartbeats 16000000 in
theorem plain7_any {w : World} {pb : Nat} {v : Value} {T : Tks} {s : PSt} (h : PW w pb v T s) (hok : TokOk T) (hi : s.i ≤ T.length) : Calls Try.prog 48 #[.pointer (some ⟨pb, 0, none⟩)] w fun e w' => e = .returned (.tuple #[.agg #[.int .i64 (plainT T s).1.kind, .string (plainT T s).1.text, .int .i64 (plainT T s).1.num, .slice none 0 0, .slice none 0 0, .slice none 0 0], .bool (plainT T s).2.1]) ∧ PT pb v T w w' ((plainT T s).2.2) := by
 have HOK := Lib.hid hok
 obtain ⟨t, ht⟩ : ∃ t, ahd T s 0 = t := ⟨_, rfl⟩
 obtain ⟨t1, ht1⟩ : ∃ t1, ahd T s 1 = t1 := ⟨_, rfl⟩
 have HT := Lib.hid ht
 have HT1 := Lib.hid ht1
 have HI := Lib.hid hi
 have HOLD := Lib.hid h.old
 obtain ⟨b1, hb1⟩ : ∃ b, isT T s 3 bMinus = b := ⟨_, rfl⟩
 obtain ⟨b4, hb4⟩ : ∃ b, isT T s 4 eB = b := ⟨_, rfl⟩
 obtain ⟨b5, hb5⟩ : ∃ b, isT T s 5 eB = b := ⟨_, rfl⟩
 obtain ⟨b6, hb6⟩ : ∃ b, isT T s 6 eB = b := ⟨_, rfl⟩
 have HB1 := Lib.hid hb1
 have HB4 := Lib.hid hb4
 have HB5 := Lib.hid hb5
 have HB6 := Lib.hid hb6
 have hlen := hok.len
 have hwr : IntKind.i64.wrap ((t.at_ : Int) + 1) = wrp ((t.at_ : Int) + 1) := by rw [IntKind.wrap_i64]; show _ = Go.RowKit.wrap64 _; unfold Go.RowKit.wrap64; omega
 have hf0 := tfld0
 have hf1 := tfld1
 have hf2 := tfld2
 have hf3 := tfld3
 clear hok ht ht1 hi hb1 hb4 hb5 hb6
 have H0 : Hid (PW (w.alloc (.cells #[.int .i64 0, .string eB, .int .i64 0, .slice none 0 0, .slice none 0 0, .slice none 0 0] 25)) pb v T s ∧ Below w.heap.size w (w.alloc (.cells #[.int .i64 0, .string eB, .int .i64 0, .slice none 0 0, .slice none 0 0, .slice none 0 0] 25)) ∧ (w.alloc (.cells #[.int .i64 0, .string eB, .int .i64 0, .slice none 0 0, .slice none 0 0, .slice none 0 0] 25)).heap[w.heap.size]? = some (.cells #[.int .i64 0, .string eB, .int .i64 0, .slice none 0 0, .slice none 0 0, .slice none 0 0] 25 (0, 0)) ∧ pb ≠ w.heap.size) := Lib.hid ⟨h.below ((Below.refl _ _).alloc (Nat.le_refl _) _), (Below.refl _ _).alloc (Nat.le_refl _) _, heap_alloc_new w _, by have := lt_of_block h.box; omega⟩
 clear h
 go_enter Try.func48, Try.ntmps48
 go_upto_region 1 with fail
 have h1 := H0.out
 obtain ⟨w1, hw1⟩ : ∃ w1, w.alloc (.cells #[.int .i64 0, .string eB, .int .i64 0, .slice none 0 0, .slice none 0 0, .slice none 0 0] 25) = w1 := ⟨_, rfl⟩
 rw [hw1] at h1 ⊢
 clear hw1
 have hzl := lt_of_block h1.2.2.1
 have hne := h1.2.2.2
 have H1 := Lib.hid h1
 clear h1 H0
 go_upto_region 2 with (first | (go_at_call 27; (with_reducible refine (ahead0_at H1.out.1.pt bel HOK.out HT.out).mono ?_); rintro e w2 ⟨rfl, hx⟩; have HX2 := Lib.hid hx; clear hx))
 have hx3 := HX2.out.below ((Below.refl _ _).alloc (Nat.le_refl _) (.cells #[.int .i64 t.kind, .string (tx t), .int .i64 t.num, .int .i64 (t.at_ : Int)] 55))
 have hm := heap_alloc_new w2 (.cells #[.int .i64 t.kind, .string (tx t), .int .i64 t.num, .int .i64 (t.at_ : Int)] 55)
 have hpl := lt_of_block HX2.out.1.box
 have hzz : w2.heap.size ≠ w.heap.size := by have := HX2.out.2.size; omega
 have hz := (hx3.2.block w.heap.size hzl (fun e => hne e.symm)).trans H1.out.2.2.1
 obtain ⟨w3, hw3⟩ : ∃ w3, w2.alloc (.cells #[.int .i64 t.kind, .string (tx t), .int .i64 t.num, .int .i64 (t.at_ : Int)] 55) = w3 := ⟨_, rfl⟩
 rw [hw3] at hx3 hm hz ⊢
 have HTB := Lib.hid hm
 have HTL := Lib.hid (lt_of_block hm)
 have HTN : Hid (¬ w2.heap.size = pb) := Lib.hid (by omega)
 have c3 : w3.cell? ⟨w2.heap.size, 3, none⟩ = some (.int .i64 (t.at_ : Int)) := cell_in hm rfl
 have HZ3 : Hid (w3.heap[w.heap.size]? = some (.cells #[.int .i64 0, .string eB, .int .i64 0, .slice none 0 0, .slice none 0 0, .slice none 0 0] 25 (0, 0)) ∧ ∀ W, Turns (atP pb) w3 W → W.heap[w.heap.size]? = some (.cells #[.int .i64 0, .string eB, .int .i64 0, .slice none 0 0, .slice none 0 0, .slice none 0 0] 25 (0, 0))) := Lib.hid ⟨hz, fun W hT => (hT.block _ (lt_of_block hz) (fun e => hne e.symm)).trans hz⟩
 have HX3 : Hid (PW w3 pb v T s ∧ PT pb v T w1 w3 s) := Lib.hid ⟨hx3.1, hx3⟩
 clear hw3 hm hx3 hz
 obtain ⟨bm, hbm⟩ : ∃ b, (isT T s 3 bMinus && (t1.kind == 4 && (t1.at_ : Int) == wrp ((t.at_ : Int) + 1))) = b := ⟨_, rfl⟩
 have HBM := Lib.hid hbm
 clear hbm
 go_cut [23] (fun v23 wx => v23 = .bool bm ∧ PT pb v T w3 wx s)
 case first =>
  cases b1 with
  | false =>
   have HE : Hid (bm = false) := Lib.hid (by rw [← HBM.out, HB1.out]; simp)
   first | (go_region_with (first | (go_at_call 22; (with_reducible refine (is_at HX3.out.1.pt bel HOK.out 3 bMinus).mono ?_); rw [HB1.out]; rintro e w4 ⟨rfl, hx⟩; have HXC := Lib.hid hx; have tb9 := (hx.2.block w2.heap.size HTL.out HTN.out).trans HTB.out; have c3 : w4.cell? ⟨w2.heap.size, 3, none⟩ = some (.int .i64 (t.at_ : Int)) := cell_in tb9 rfl; clear tb9; clear hx))) | fail
   all_goals
    go_wp2_with fail
    go_meet
    exact ⟨by rw [HE.out], HXC.out⟩
  | true =>
   obtain ⟨b2, hb2⟩ : ∃ b, (t1.kind == 4) = b := ⟨_, rfl⟩
   have HB2 := Lib.hid hb2
   cases b2 with
   | false =>
    have HE : Hid (bm = false) := Lib.hid (by rw [← HBM.out, HB1.out, HB2.out]; simp)
    first | (go_region_with (first | (go_at_call 22; (with_reducible refine (is_at HX3.out.1.pt bel HOK.out 3 bMinus).mono ?_); rw [HB1.out]; rintro e w4 ⟨rfl, hx⟩; have HXC := Lib.hid hx; have tb9 := (hx.2.block w2.heap.size HTL.out HTN.out).trans HTB.out; have c3 : w4.cell? ⟨w2.heap.size, 3, none⟩ = some (.int .i64 (t.at_ : Int)) := cell_in tb9 rfl; clear tb9; clear hx) | (go_at_call 27; (with_reducible refine (ahead1_at HXC.out bel HOK.out HT1.out).mono ?_); rintro e w5 ⟨rfl, hx⟩; have HXC := Lib.hid hx; have tb9 := (hx.2.block w2.heap.size HTL.out HTN.out).trans HTB.out; have c3 : w5.cell? ⟨w2.heap.size, 3, none⟩ = some (.int .i64 (t.at_ : Int)) := cell_in tb9 rfl; clear tb9; clear hx))) | fail
    all_goals
     go_wp2_with fail
     go_meet
     exact ⟨by rw [HE.out], HXC.out⟩
   | true =>
    have HE : Hid (((t1.at_ : Int) == wrp ((t.at_ : Int) + 1)) = bm) := Lib.hid (by rw [← HBM.out, HB1.out, HB2.out]; simp)
    first | (go_region_with (first | (go_at_call 22; (with_reducible refine (is_at HX3.out.1.pt bel HOK.out 3 bMinus).mono ?_); rw [HB1.out]; rintro e w4 ⟨rfl, hx⟩; have HXC := Lib.hid hx; have tb9 := (hx.2.block w2.heap.size HTL.out HTN.out).trans HTB.out; have c3 : w4.cell? ⟨w2.heap.size, 3, none⟩ = some (.int .i64 (t.at_ : Int)) := cell_in tb9 rfl; clear tb9; clear hx) | (go_at_call 27; (with_reducible refine (ahead1_at HXC.out bel HOK.out HT1.out).mono ?_); rintro e w5 ⟨rfl, hx⟩; have HXC := Lib.hid hx; have tb9 := (hx.2.block w2.heap.size HTL.out HTN.out).trans HTB.out; have c3 : w5.cell? ⟨w2.heap.size, 3, none⟩ = some (.int .i64 (t.at_ : Int)) := cell_in tb9 rfl; clear tb9; clear hx))) | fail
    all_goals
     go_wp2_with fail
     go_meet
     exact ⟨by rw [← HE.out], HXC.out⟩
 case rest =>
  obtain ⟨rfl, hx4⟩ := hcut
  have HX4 := Lib.hid hx4
  have nb0 := HZ3.out.2 wc hx4.2
  have nb := nb0
  obtain ⟨n0, n1, n2, n3, n4, n5, nr0, nr1, nr2, nr3, nr4, nr5⟩ := cf6 nb
  clear hx4 c3
  rename World => wk
  cases bm with
  | false =>
   have HNM : Hid (¬ (isT T s 3 bMinus && (t1.kind == 4 && (t1.at_ : Int) == wrp ((t.at_ : Int) + 1))) = true) := Lib.hid (by rw [HBM.out]; decide)
   cases b4 with
   | true =>
    have HPL : Hid (plainT T s = (.node 1 eB t.num [] [] [], true, takeT s)) := Lib.hid (by unfold plainT; rw [HT.out, HT1.out, if_neg HNM.out, if_pos HB4.out])
    go_wp2_with (first | (go_at_call 22; (with_reducible refine (is_at HX4.out bel HOK.out 4 eB).mono ?_); rw [HB4.out]; rintro e wi4 ⟨rfl, hx⟩; have HXI4 := Lib.hid hx; clear hx) | (go_at_call 23; (with_reducible refine (take_at HXI4.out bel HOK.out HI.out HT.out).mono ?_); rintro e wz ⟨rfl, hx⟩; have HXZ := Lib.hid hx; have nb := ((HZ3.out.2 wz hx.2)); obtain ⟨n0, n1, n2, n3, n4, n5, nr0, nr1, nr2, nr3, nr4, nr5⟩ := cf6 nb; clear hx))
    obtain ⟨W9, hW9⟩ : ∃ W9, W9 = ((((((wz.setCell ⟨w.heap.size, 0, none⟩ (.int .i64 1)).setCell ⟨w.heap.size, 1, none⟩ (.string eB)).setCell ⟨w.heap.size, 2, none⟩ (.int .i64 t.num)).setCell ⟨w.heap.size, 3, none⟩ (.slice none 0 0)).setCell ⟨w.heap.size, 4, none⟩ (.slice none 0 0)).setCell ⟨w.heap.size, 5, none⟩ (.slice none 0 0)) := ⟨_, rfl⟩
    have h9 : W9.heap[w.heap.size]? = some (.cells #[.int .i64 1, .string eB, .int .i64 t.num, .slice none 0 0, .slice none 0 0, .slice none 0 0] 25 (0, 0)) := by rw [hW9]; exact agg_set6 nb
    obtain ⟨z0, z1, z2, z3, z4, z5⟩ := cc6 h9
    have HT9 : Hid (Turns (fun k => k = w.heap.size) wz W9) := Lib.hid (by rw [hW9]; exact six_turns (T := fun k => k = w.heap.size) (Turns.refl _ _) (w.heap.size) rfl)
    rw [← hW9]
    clear hW9 h9
    refine bodyPost_ret (v := .tuple #[.agg #[.int .i64 1, .string eB, .int .i64 t.num, .slice none 0 0, .slice none 0 0, .slice none 0 0], .bool true]) (by simp [results, Try.results48, go_sem, z0, z1, z2, z3, z4, z5]) rfl ?_
    rw [HPL.out]; exact ⟨rfl, PT.own H1.out.2.1 (HX3.out.2.go HXZ.out) HT9.out (Nat.le_refl _) H1.out.2.2.2 HOLD.out⟩
   | false =>
    cases b5 with
    | true =>
     have HPL : Hid (plainT T s = (.node 2 (tx t) 0 [] [] [], true, takeT s)) := Lib.hid (by unfold plainT; rw [HT.out, HT1.out, if_neg HNM.out, if_neg (by rw [HB4.out]; decide), if_pos HB5.out])
     go_wp2_with (first | (go_at_call 22; (with_reducible refine (is_at HX4.out bel HOK.out 4 eB).mono ?_); rw [HB4.out]; rintro e wi4 ⟨rfl, hx⟩; have HXI4 := Lib.hid hx; clear hx) | (go_at_call 22; (with_reducible refine (is_at HXI4.out bel HOK.out 5 eB).mono ?_); rw [HB5.out]; rintro e wi5 ⟨rfl, hx⟩; have HXI5 := Lib.hid hx; clear hx) | (go_at_call 23; (with_reducible refine (take_at HXI5.out bel HOK.out HI.out HT.out).mono ?_); rintro e wz ⟨rfl, hx⟩; have HXZ := Lib.hid hx; have nb := ((HZ3.out.2 wz hx.2)); obtain ⟨n0, n1, n2, n3, n4, n5, nr0, nr1, nr2, nr3, nr4, nr5⟩ := cf6 nb; clear hx))
     obtain ⟨W9, hW9⟩ : ∃ W9, W9 = ((((((wz.setCell ⟨w.heap.size, 0, none⟩ (.int .i64 2)).setCell ⟨w.heap.size, 1, none⟩ (.string (tx t))).setCell ⟨w.heap.size, 2, none⟩ (.int .i64 0)).setCell ⟨w.heap.size, 3, none⟩ (.slice none 0 0)).setCell ⟨w.heap.size, 4, none⟩ (.slice none 0 0)).setCell ⟨w.heap.size, 5, none⟩ (.slice none 0 0)) := ⟨_, rfl⟩
     have h9 : W9.heap[w.heap.size]? = some (.cells #[.int .i64 2, .string (tx t), .int .i64 0, .slice none 0 0, .slice none 0 0, .slice none 0 0] 25 (0, 0)) := by rw [hW9]; exact agg_set6 nb
     obtain ⟨z0, z1, z2, z3, z4, z5⟩ := cc6 h9
     have HT9 : Hid (Turns (fun k => k = w.heap.size) wz W9) := Lib.hid (by rw [hW9]; exact six_turns (T := fun k => k = w.heap.size) (Turns.refl _ _) (w.heap.size) rfl)
     rw [← hW9]
     clear hW9 h9
     refine bodyPost_ret (v := .tuple #[.agg #[.int .i64 2, .string (tx t), .int .i64 0, .slice none 0 0, .slice none 0 0, .slice none 0 0], .bool true]) (by simp [results, Try.results48, go_sem, z0, z1, z2, z3, z4, z5]) rfl ?_
     rw [HPL.out]; exact ⟨rfl, PT.own H1.out.2.1 (HX3.out.2.go HXZ.out) HT9.out (Nat.le_refl _) H1.out.2.2.2 HOLD.out⟩
    | false =>
     cases b6 with
     | true =>
      have HPL : Hid (plainT T s = (.node 3 (tx t) 0 [] [] [], true, takeT s)) := Lib.hid (by unfold plainT; rw [HT.out, HT1.out, if_neg HNM.out, if_neg (by rw [HB4.out]; decide), if_neg (by rw [HB5.out]; decide), if_pos HB6.out])
      go_wp2_with (first | (go_at_call 22; (with_reducible refine (is_at HX4.out bel HOK.out 4 eB).mono ?_); rw [HB4.out]; rintro e wi4 ⟨rfl, hx⟩; have HXI4 := Lib.hid hx; clear hx) | (go_at_call 22; (with_reducible refine (is_at HXI4.out bel HOK.out 5 eB).mono ?_); rw [HB5.out]; rintro e wi5 ⟨rfl, hx⟩; have HXI5 := Lib.hid hx; clear hx) | (go_at_call 22; (with_reducible refine (is_at HXI5.out bel HOK.out 6 eB).mono ?_); rw [HB6.out]; rintro e wc ⟨rfl, hx⟩; have HXC := Lib.hid hx; have nb := ((HZ3.out.2 wc hx.2)); obtain ⟨n0, n1, n2, n3, n4, n5, nr0, nr1, nr2, nr3, nr4, nr5⟩ := cf6 nb; clear hx) | (go_at_call 23; (with_reducible refine (take_at HXC.out bel HOK.out HI.out HT.out).mono ?_); rintro e wz ⟨rfl, hx⟩; have HXZ := Lib.hid hx; have nb := ((HZ3.out.2 wz hx.2)); obtain ⟨n0, n1, n2, n3, n4, n5, nr0, nr1, nr2, nr3, nr4, nr5⟩ := cf6 nb; clear hx))
      obtain ⟨W9, hW9⟩ : ∃ W9, W9 = ((((((wz.setCell ⟨w.heap.size, 0, none⟩ (.int .i64 3)).setCell ⟨w.heap.size, 1, none⟩ (.string (tx t))).setCell ⟨w.heap.size, 2, none⟩ (.int .i64 0)).setCell ⟨w.heap.size, 3, none⟩ (.slice none 0 0)).setCell ⟨w.heap.size, 4, none⟩ (.slice none 0 0)).setCell ⟨w.heap.size, 5, none⟩ (.slice none 0 0)) := ⟨_, rfl⟩
      have h9 : W9.heap[w.heap.size]? = some (.cells #[.int .i64 3, .string (tx t), .int .i64 0, .slice none 0 0, .slice none 0 0, .slice none 0 0] 25 (0, 0)) := by rw [hW9]; exact agg_set6 nb
      obtain ⟨z0, z1, z2, z3, z4, z5⟩ := cc6 h9
      have HT9 : Hid (Turns (fun k => k = w.heap.size) wz W9) := Lib.hid (by rw [hW9]; exact six_turns (T := fun k => k = w.heap.size) (Turns.refl _ _) (w.heap.size) rfl)
      rw [← hW9]
      clear hW9 h9
      refine bodyPost_ret (v := .tuple #[.agg #[.int .i64 3, .string (tx t), .int .i64 0, .slice none 0 0, .slice none 0 0, .slice none 0 0], .bool true]) (by simp [results, Try.results48, go_sem, z0, z1, z2, z3, z4, z5]) rfl ?_
      rw [HPL.out]; exact ⟨rfl, PT.own H1.out.2.1 (HX3.out.2.go HXZ.out) HT9.out (Nat.le_refl _) H1.out.2.2.2 HOLD.out⟩
     | false =>
      have HPL : Hid (plainT T s = (nd0, false, s)) := Lib.hid (by unfold plainT; rw [HT.out, HT1.out, if_neg HNM.out, if_neg (by rw [HB4.out]; decide), if_neg (by rw [HB5.out]; decide), if_neg (by rw [HB6.out]; decide)])
      go_wp2_with (first | (go_at_call 22; (with_reducible refine (is_at HX4.out bel HOK.out 4 eB).mono ?_); rw [HB4.out]; rintro e wi4 ⟨rfl, hx⟩; have HXI4 := Lib.hid hx; clear hx) | (go_at_call 22; (with_reducible refine (is_at HXI4.out bel HOK.out 5 eB).mono ?_); rw [HB5.out]; rintro e wi5 ⟨rfl, hx⟩; have HXI5 := Lib.hid hx; clear hx) | (go_at_call 22; (with_reducible refine (is_at HXI5.out bel HOK.out 6 eB).mono ?_); rw [HB6.out]; rintro e wc ⟨rfl, hx⟩; have HXC := Lib.hid hx; have nb := ((HZ3.out.2 wc hx.2)); obtain ⟨n0, n1, n2, n3, n4, n5, nr0, nr1, nr2, nr3, nr4, nr5⟩ := cf6 nb; clear hx))
      obtain ⟨W9, hW9⟩ : ∃ W9, W9 = ((((((wc.setCell ⟨w.heap.size, 0, none⟩ (.int .i64 0)).setCell ⟨w.heap.size, 1, none⟩ (.string eB)).setCell ⟨w.heap.size, 2, none⟩ (.int .i64 0)).setCell ⟨w.heap.size, 3, none⟩ (.slice none 0 0)).setCell ⟨w.heap.size, 4, none⟩ (.slice none 0 0)).setCell ⟨w.heap.size, 5, none⟩ (.slice none 0 0)) := ⟨_, rfl⟩
      have h9 : W9.heap[w.heap.size]? = some (.cells #[.int .i64 0, .string eB, .int .i64 0, .slice none 0 0, .slice none 0 0, .slice none 0 0] 25 (0, 0)) := by rw [hW9]; exact agg_set6 nb
      obtain ⟨z0, z1, z2, z3, z4, z5⟩ := cc6 h9
      have HT9 : Hid (Turns (fun k => k = w.heap.size) wc W9) := Lib.hid (by rw [hW9]; exact six_turns (T := fun k => k = w.heap.size) (Turns.refl _ _) (w.heap.size) rfl)
      rw [← hW9]
      clear hW9 h9
      refine bodyPost_ret (v := .tuple #[.agg #[.int .i64 0, .string eB, .int .i64 0, .slice none 0 0, .slice none 0 0, .slice none 0 0], .bool false]) (by simp [results, Try.results48, go_sem, z0, z1, z2, z3, z4, z5]) rfl ?_
      rw [HPL.out]; exact ⟨rfl, PT.own H1.out.2.1 (HX3.out.2.go HXC.out) HT9.out (Nat.le_refl _) H1.out.2.2.2 HOLD.out⟩
  | true =>
   obtain ⟨t2, ht2⟩ : ∃ t2, ahd T (takeT s) 0 = t2 := ⟨_, rfl⟩
   have HT2 := Lib.hid ht2
   have hb3 : isT T s 3 bMinus = true := by have h9 := HBM.out; simp only [Bool.and_eq_true] at h9; exact h9.1
   have HI1 : Hid ((takeT s).i ≤ T.length) := Lib.hid (isT_lt hb3 HOK.out (by decide))
   have HPL : Hid (plainT T s = (.node 1 eB (wrp (-t2.num)) [] [] [], true, takeT (takeT s))) := Lib.hid (by unfold plainT; rw [HT.out, HT1.out, HT2.out, if_pos HBM.out])
   clear ht2 hb3
   go_upto_region 4 with (first | (go_at_call 23; (with_reducible refine (take_at HX4.out bel HOK.out HI.out HT.out).mono ?_); rintro e w7 ⟨rfl, hx⟩; have HX7 := Lib.hid hx; clear hx))
   go_wp2_with (first | (go_at_call 23; (with_reducible refine (take_at HX7.out bel HOK.out HI1.out HT2.out).mono ?_); rintro e wz ⟨rfl, hx⟩; have HXZ := Lib.hid hx; have nb := ((HZ3.out.2 wz hx.2)); obtain ⟨n0, n1, n2, n3, n4, n5, nr0, nr1, nr2, nr3, nr4, nr5⟩ := cf6 nb; clear hx))
   obtain ⟨W9, hW9⟩ : ∃ W9, W9 = ((((((wz.setCell ⟨w.heap.size, 0, none⟩ (.int .i64 1)).setCell ⟨w.heap.size, 1, none⟩ (.string eB)).setCell ⟨w.heap.size, 2, none⟩ (.int .i64 (wrp (-t2.num)))).setCell ⟨w.heap.size, 3, none⟩ (.slice none 0 0)).setCell ⟨w.heap.size, 4, none⟩ (.slice none 0 0)).setCell ⟨w.heap.size, 5, none⟩ (.slice none 0 0)) := ⟨_, rfl⟩
   have h9 : W9.heap[w.heap.size]? = some (.cells #[.int .i64 1, .string eB, .int .i64 (wrp (-t2.num)), .slice none 0 0, .slice none 0 0, .slice none 0 0] 25 (0, 0)) := by rw [hW9]; exact agg_set6 nb
   obtain ⟨z0, z1, z2, z3, z4, z5⟩ := cc6 h9
   have HT9 : Hid (Turns (fun k => k = w.heap.size) wz W9) := Lib.hid (by rw [hW9]; exact six_turns (T := fun k => k = w.heap.size) (Turns.refl _ _) (w.heap.size) rfl)
   rw [← hW9]
   clear hW9 h9
   refine bodyPost_ret (v := .tuple #[.agg #[.int .i64 1, .string eB, .int .i64 (wrp (-t2.num)), .slice none 0 0, .slice none 0 0, .slice none 0 0], .bool true]) (by simp [results, Try.results48, go_sem, z0, z1, z2, z3, z4, z5]) rfl ?_
   rw [HPL.out]; exact ⟨rfl, PT.own H1.out.2.1 (HX3.out.2.go HXZ.out) HT9.out (Nat.le_refl _) H1.out.2.2.2 HOLD.out⟩
end Go.Proofs.Ytnojndgmgkgnpaa

/- Chapter 10: a jump that will be made to lead somewhere. -/
import Derived.Test.YtnojndgmgkgnpaaCI
namespace Go.Proofs.Ytnojndgmgkgnpaa
open Go.ChangeShapes Go.WideShapes Go.ChangeAt Go.RowKit Go.Deep Go.Joins Go.Maps
set_option linter.unusedVariables false
set_option linter.unusedSimpArgs false
/-- what a jump's closure holds: the method, where the jump stands, its operation -/
structure Clo (w : World) (kb cb a : Nat) (op : Int) : Prop where
 b0 : w.heap[kb]? = some (.cells #[.pointer (some ⟨cb, 0, none⟩)] 70 (0, 0))
 b1 : w.heap[kb + 1]? = some (.cells #[.int .i64 op] 3 (0, 0))
 b2 : w.heap[kb + 2]? = some (.cells #[.int .i64 (a : Int)] 3 (0, 0))
def cloV (kb : Nat) : Value := .func (.func 76) #[] #[.pointer (some ⟨kb, 0, none⟩), .pointer (some ⟨kb + 2, 0, none⟩), .pointer (some ⟨kb + 1, 0, none⟩)]
def cloS (kb : Nat) (k : Nat) : Prop := kb ≤ k ∧ k ≤ kb + 2
theorem Clo.turns {w w' : World} {kb cb a : Nat} {op : Int} {S : Nat → Prop} (h : Clo w kb cb a op) (ht : Turns S w w') (hS : ∀ k, cloS kb k → ¬ S k) : Clo w' kb cb a op :=
 ⟨(ht.block _ (lt_of_block h.b0) (hS _ ⟨by omega, by omega⟩)).trans h.b0, (ht.block _ (lt_of_block h.b1) (hS _ ⟨by omega, by omega⟩)).trans h.b1, (ht.block _ (lt_of_block h.b2) (hS _ ⟨by omega, by omega⟩)).trans h.b2⟩
set_option maxRecDepth 100000 in
set_option maxHeartbeats 16000000 in
theorem leads_any {w0 w : World} {P : Nat → Prop} {cb : Nat} {m : MK} {s : CSt} (h : CX w0 P w cb m s) (op : Int) (hf : s.code.length ≤ 1000000) : Calls Try.prog 61 #[.pointer (some ⟨cb, 0, none⟩), .int .i64 op] w fun e w' => e = .returned (cloV w.heap.size) ∧ w.heap.size + 2 < w'.heap.size ∧ Clo w' w.heap.size cb s.code.length op ∧ CX w0 (fun k => P k ∨ cloS w.heap.size k) w' cb m (emitP s op 0 0) ∧ Turns (outP P) w w' := by
 obtain ⟨n, hn⟩ : ∃ n, s.code.length = n := ⟨_, rfl⟩
 have HN := Lib.hid hn
 have hb : Below w.heap.size w (((w.alloc (.cells #[.pointer (some ⟨cb, 0, none⟩)] 70)).alloc (.cells #[.int .i64 op] 3)).alloc (.cells #[.int .i64 (s.code.length : Int)] 3)) := bel
 have hk := h.keep hb
 have HB := Lib.hid hb
 have HK := Lib.hid hk
 have HH := Lib.hid h
 have HCL : Hid (Clo (((w.alloc (.cells #[.pointer (some ⟨cb, 0, none⟩)] 70)).alloc (.cells #[.int .i64 op] 3)).alloc (.cells #[.int .i64 (s.code.length : Int)] 3)) w.heap.size cb s.code.length op) := Lib.hid (by
  refine ⟨?_, ?_, ?_⟩
  ·exact ((Below.refl _ _).alloc (Nat.le_refl _) _ |>.block _ (by simp only [World.size_alloc]; omega)).trans (((Below.refl _ _).alloc (Nat.le_refl _) _ |>.block _ (by simp only [World.size_alloc]; omega)).trans (heap_alloc_new w _))
  ·have h2 := heap_alloc_new (w.alloc (.cells #[.pointer (some ⟨cb, 0, none⟩)] 70)) (.cells #[.int .i64 op] 3)
   rw [World.size_alloc] at h2
   exact ((Below.refl _ _).alloc (Nat.le_refl _) _ |>.block _ (by simp only [World.size_alloc]; omega)).trans h2
  ·have h2 := heap_alloc_new ((w.alloc (.cells #[.pointer (some ⟨cb, 0, none⟩)] 70)).alloc (.cells #[.int .i64 op] 3)) (.cells #[.int .i64 (s.code.length : Int)] 3)
   simp only [World.size_alloc] at h2
   exact h2)
 have HF := Lib.hid hf
 clear h hb hk hf hn
 go_enter Try.func61, Try.ntmps61
 go_wp2_with (first | (go_at_call 75; (with_reducible refine (here_any (HH.out.below bel)).mono ?_); rintro e w2 ⟨rfl, hw2⟩; replace hw2 := hw2.symm; subst hw2) | (go_at_call 45; (with_reducible refine (emit_any HK.out op 0 0 HF.out).mono ?_); rintro e w3 ⟨rfl, hx3⟩; have HX3 := Lib.hid hx3; clear hx3))
 go_ret
 have hs := HX3.out.2.size
 simp only [World.size_alloc] at hs
 refine ⟨rfl, by omega, HCL.out.turns HX3.out.2 (fun k hk z => z (.inr ⟨hk.1, ?_⟩)), HX3.out.1.less (fun k hk => ?_) (fun k hk => .inl (HH.out.low k hk)), (Turns.of_below HB.out).trans (HX3.out.2.mono (fun k _ z q => z (.inl q)))⟩
 ·have := hk.2; simp only [World.size_alloc]; omega
 ·rcases hk with q | q
  ·exact .inl q
  ·exact .inr ⟨q.1, by have := q.2; simp only [World.size_alloc]; omega⟩
set_option maxRecDepth 100000 in
set_option maxHeartbeats 16000000 in
theorem lead1_any {w0 w : World} {P : Nat → Prop} {cb : Nat} {m : MK} {s : CSt} (h : CX w0 P w cb m s) {kb a : Nat} {op : Int} (hc : Clo w kb cb a op) (hS : ∀ k, cloS kb k → P k) (ha : a < s.code.length) (hf : s.code.length ≤ 1000000) : Calls Try.prog 76 #[.pointer (some ⟨kb, 0, none⟩), .pointer (some ⟨kb + 2, 0, none⟩), .pointer (some ⟨kb + 1, 0, none⟩)] w fun e w' => e = .returned (.tuple #[]) ∧ CT w0 P w w' cb m (toP s a op s.code.length) := by
 obtain ⟨n, hn⟩ : ∃ n, s.code.length = n := ⟨_, rfl⟩
 have HN := Lib.hid hn
 have c0 : w.cell? ⟨kb, 0, none⟩ = some (.pointer (some ⟨cb, 0, none⟩)) := by simp [World.cell?, hc.b0]
 have c1 : w.cell? ⟨kb + 1, 0, none⟩ = some (.int .i64 op) := by simp [World.cell?, hc.b1]
 have c2 : w.cell? ⟨kb + 2, 0, none⟩ = some (.int .i64 (a : Int)) := by simp [World.cell?, hc.b2]
 have HH := Lib.hid h
 have HC := Lib.hid hc
 have HS := Lib.hid hS
 have HA := Lib.hid ha
 rw [hn] at hf ⊢
 have HF : Hid (s.code.length ≤ 1000000) := Lib.hid (by omega)
 clear h hc hS ha hn
 go_enter Try.func76, Try.ntmps76
 go_region_held3 (fun w' => w'.cell? ⟨kb, 0, none⟩ = some (.pointer (some ⟨cb, 0, none⟩)) ∧ w'.cell? ⟨kb + 1, 0, none⟩ = some (.int .i64 op) ∧ w'.cell? ⟨kb + 2, 0, none⟩ = some (.int .i64 (a : Int))) (first | assumption | (simp [go_sem]; done) | (simp [go_sem, *]; done)) (first | (go_at_call 75; (with_reducible refine (here_any (HH.out.below bel)).mono ?_); rw [HN.out]; rintro e w2 ⟨rfl, hw2⟩; replace hw2 := hw2.symm; subst hw2) | (go_at_call 77; (with_reducible refine (to_at HH.out.ct bel a HA.out op n (by omega) HF.out).mono ?_); rintro e w3 ⟨rfl, hx3⟩; have hc3 := (HC.out.turns (Turns.of_below (show Below w.heap.size w _ from bel)) (fun k hk z => z)).turns hx3.2 (fun k hk z => z (HS.out k hk)); have HX3 := Lib.hid hx3; clear hx3; have c0 : w3.cell? ⟨kb, 0, none⟩ = some (.pointer (some ⟨cb, 0, none⟩)) := (by simp [World.cell?, hc3.b0]); have c1 : w3.cell? ⟨kb + 1, 0, none⟩ = some (.int .i64 op) := (by simp [World.cell?, hc3.b1]); have c2 : w3.cell? ⟨kb + 2, 0, none⟩ = some (.int .i64 (a : Int)) := (by simp [World.cell?, hc3.b2])))
 all_goals
  go_returns
  exact ⟨rfl, HX3.out⟩
end Go.Proofs.Ytnojndgmgkgnpaa

/- Chapter 02: what a deed leaves as it was; stores. -/
import Derived.Test.YtfinpgkehjbcpaaHDeeds
import Derived.Test.YtfinpgkehjbcpaaHR1
namespace Go.Proofs.Ytfinpgkehjbcpaa
open Go.ChangeShapes Go.WideShapes Go.ChangeAt Go.RowKit Go.Deep Go.Joins Go.Maps
set_option linter.unusedVariables false
set_option linter.unusedSimpArgs false

/-- all blocks but those of S are as they were -/
structure Turns (S : Nat → Prop) (w w' : World) : Prop where
  os : w'.os = w.os
  tape : w'.tape = w.tape
  output : w'.output = w.output
  size : w.heap.size ≤ w'.heap.size
  block : ∀ k, k < w.heap.size → ¬ S k → w'.heap[k]? = w.heap[k]?
section
variable {S T : Nat → Prop} {w w' w'' : World}
theorem Turns.refl (S : Nat → Prop) (w : World) : Turns S w w := ⟨rfl, rfl, rfl, Nat.le_refl _, fun _ _ _ => rfl⟩
theorem Turns.drewN (h : Turns S w w') (n : Nat) : Turns S w (w'.drewN n) := ⟨h.os, h.tape, h.output, h.size, h.block⟩
theorem Turns.trans (h : Turns S w w') (k : Turns S w' w'') : Turns S w w'' := ⟨k.os.trans h.os, k.tape.trans h.tape, k.output.trans h.output, Nat.le_trans h.size k.size, fun j hj hs => (k.block j (Nat.lt_of_lt_of_le hj h.size) hs).trans (h.block j hj hs)⟩
theorem Turns.mono (h : Turns S w w') (hs : ∀ k, k < w.heap.size → S k → T k) : Turns T w w' := ⟨h.os, h.tape, h.output, h.size, fun k hk ht => h.block k hk (fun q => ht (hs k hk q))⟩
theorem Turns.setCell (h : Turns S w w') (a : Addr) (v : Value) (ha : S a.block) : Turns S w (w'.setCell a v) := ⟨h.os, h.tape, h.output, by simpa using h.size, fun k hk hs => by rw [Below.heap_setCell _ _ _ _ (fun e => hs (by rw [e]; exact ha))]; exact h.block k hk hs⟩
theorem Turns.of_below (h : Below w.heap.size w w') : Turns S w w' := ⟨h.os, h.tape, h.output, h.size, fun k hk _ => h.block k hk⟩
theorem Turns.below (h : Turns S w w') {B : Nat} (hs : ∀ k, S k → B ≤ k) (hB : B ≤ w.heap.size) : Below B w w' := ⟨h.os, h.tape, h.output, h.size, fun k hk => h.block k (Nat.lt_of_lt_of_le hk hB) (fun q => by have := hs k q; omega)⟩
end
def pset (s bw bm : Nat) (k : Nat) : Prop := k = s ∨ k = bw ∨ k = bm
section
variable {w w' : World} {s bw bm : Nat} {m : Hp}
theorem BoolMap.block {b n : Nat} {f : Int → Bool} (h : BoolMap w b n f) : ∃ es clock, w.heap[b]? = some (.map es clock) := by
  obtain ⟨D, ⟨es, clock, h1, _⟩, _⟩ := h
  exact ⟨es, clock, h1⟩
theorem PM.ne (h : PM w s bw bm m) : s ≠ bw ∧ s ≠ bm ∧ bw ≠ bm := by
  obtain ⟨ys, y1, y2, y3⟩ := h.row
  obtain ⟨n, f, m1, m2, m3⟩ := h.map
  obtain ⟨es, clock, m4⟩ := m2.block
  refine ⟨fun e => ?_, fun e => ?_, fun e => ?_⟩
  · have := h.box; rw [e, y3] at this; simp at this
  · have := h.box; rw [e, m4] at this; simp at this
  · rw [e, m4] at y3; simp at y3
theorem PM.lt (h : PM w s bw bm m) : ∀ k, pset s bw bm k → k < w.heap.size := by
  obtain ⟨ys, y1, y2, y3⟩ := h.row
  obtain ⟨n, f, m1, m2, m3⟩ := h.map
  rintro k (rfl | rfl | rfl)
  · exact lt_of_block h.box
  · exact lt_of_block y3
  · exact m2.lt
theorem PM.turns (h : PM w s bw bm m) {T : Nat → Prop} (ht : Turns T w w') (hd : ∀ k, pset s bw bm k → ¬ T k) : PM w' s bw bm m :=
  h.same (ht.block _ (h.lt _ (.inl rfl)) (hd _ (.inl rfl))) (ht.block _ (h.lt _ (.inr (.inl rfl))) (hd _ (.inr (.inl rfl)))) (ht.block _ (h.lt _ (.inr (.inr rfl))) (hd _ (.inr (.inr rfl))))
theorem PM.free (h : PM w s bw bm m) (k : Nat) : w.frozen? ⟨bw, k, none⟩ = false := by
  obtain ⟨ys, y1, y2, y3⟩ := h.row
  exact ints_free y3 k
theorem PM.freeS (h : PM w s bw bm m) (k : Nat) : w.frozen? ⟨s, k, none⟩ = false := by simp [World.frozen?, h.box]
/-- a word of an object is stored -/
theorem PM.store (h : PM w s bw bm m) {i k : Nat} (hi : i < m.L.length) (hk : k < m.L[i].F.length + 3) {o' : Ob} {x : Int} (ho : encO o' = (encO m.L[i]).set k x) (hl : o'.F.length = m.L[i].F.length) (hg : Good { m with L := m.L.set i o' }) :
    PM (w.setCell ⟨bw, adr m.L i + k, none⟩ (.int .i64 x)) s bw bm { m with L := m.L.set i o' } := by
  obtain ⟨n1, n2, n3⟩ := h.ne
  obtain ⟨ys, y1, y2, y3⟩ := h.row
  obtain ⟨n, f, m1, m2, m3⟩ := h.map
  have hla := set_lens hi hl
  refine ⟨hg, ?_, ⟨ys.set (adr m.L i + k) x, by simpa using y1, words_set y2 hi hk ho, ?_⟩, n, f, by simpa using m1, m2.same (Below.heap_setCell _ _ _ _ (fun e => n3 e.symm)), fun a ha => ?_⟩
  · rw [Below.heap_setCell _ _ _ _ n1, h.box]
    show some (Obj.cells #[_, .int .i64 (adr m.L m.L.length : Int), _, _] _ _) = some (Obj.cells #[_, .int .i64 (adr (m.L.set i o') (m.L.set i o').length : Int), _, _] _ _)
    rw [adr_congr hla, List.length_set]
  · rw [heap_setCell_same w bw (adr m.L i + k) _ _ _ y3, List.map_set]
    simp
  · rw [m3 a ha]
    show (∃ j, j < m.L.length ∧ (adr m.L j : Int) = a) ↔ ∃ j, j < (m.L.set i o').length ∧ (adr (m.L.set i o') j : Int) = a
    rw [List.length_set]
    simp only [adr_congr hla]
theorem PM.setMade (h : PM w s bw bm m) (n : Nat) (hn : n ≤ 1099511627776) : PM (w.setCell ⟨s, 2, none⟩ (.int .i64 (n : Int))) s bw bm { m with made := n } := by
  obtain ⟨n1, n2, n3⟩ := h.ne
  obtain ⟨ys, y1, y2, y3⟩ := h.row
  obtain ⟨k, f, m1, m2, m3⟩ := h.map
  have g := h.good
  refine ⟨⟨g.lo, g.hi, hn, g.fits, g.fmt, g.len, g.word⟩, ?_, ⟨ys, y1, y2, ?_⟩, k, f, m1, m2.same (Below.heap_setCell _ _ _ _ (fun e => n2 e.symm)), m3⟩
  · rw [heap_setCell_same w s 2 _ _ _ h.box]; rfl
  · rw [Below.heap_setCell _ _ _ _ (fun e => n1 e.symm)]; exact y3
end
end Go.Proofs.Ytfinpgkehjbcpaa

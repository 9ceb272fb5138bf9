/- Chapter 02: the contract of Keep. -/
import Derived.Test.YthonodimjglnfaaHK3
namespace Go.Proofs.Ythonodimjglnfaa
open Go.ChangeShapes Go.WideShapes Go.ChangeAt Go.RowKit Go.Deep Go.Joins Go.Maps
set_option linter.unusedVariables false
set_option linter.unusedSimpArgs false

/-- the loop that looks at what is to be kept -/
def KeepL (w : World) (pt bt : Obj) (l : List Int) (k : Nat) (wr : World) : Prop := Below w.heap.size w wr ∧ wr.heap[w.heap.size]? = some pt ∧ wr.heap[w.heap.size + 1 + 1]? = some bt ∧ BoolMap wr (w.heap.size + 1) k (fun a => (l.take k).contains a)
def KeepPost (s bw bm : Nat) (m : Hp) (l : List Int) (w : World) (e : Ending) (w' : World) : Prop := ∃ v, e = .returned (.tuple #[v, .int .i64 (keepV m l).2.2]) ∧ Ints w' w.heap.size v (keepV m l).2.1 ∧ ∃ bm', PM w' s bw bm' (keepV m l).1 ∧ (bm' = bm ∨ w.heap.size ≤ bm') ∧ Turns (gone s bw) w w'
theorem keep_no {w w' : World} {s bw bm : Nat} {m : Hp} {l : List Int} (hv : keepV m l = (m, [], 1)) (h : PM w' s bw bm m) (ht : Turns (gone s bw) w w') : KeepPost s bw bm m l w (.returned (.tuple #[.slice none 0 0, .int .i64 1])) w' := by
  unfold KeepPost
  rw [hv]
  exact ⟨_, rfl, World.ownsRow_nil _ _ _ _, bm, h, .inl rfl, ht⟩
theorem all_take_no {l : List Int} {P : Int → Bool} {k : Nat} (hk : k < l.length) (h : P l[k] = false) : l.all P = false := by
  rw [List.all_eq_false]; exact ⟨l[k], List.getElem_mem hk, by rw [h]; simp⟩
theorem all_take_succ {l : List Int} {P : Int → Bool} {k : Nat} (hk : k < l.length) (h : P l[k] = true) (ha : (l.take k).all P = true) : (l.take (k + 1)).all P = true := by
  rw [List.take_succ_eq_append_getElem hk, List.all_append, ha]; simp [h]
theorem contains_take {l : List Int} {k : Nat} (hk : k < l.length) (a : Int) : (l.take (k + 1)).contains a = if a = l[k] then true else (l.take k).contains a := by
  have hm : a ∈ l.take (k + 1) ↔ a ∈ l.take k ∨ a = l[k] := by rw [List.take_succ_eq_append_getElem hk, List.mem_append, List.mem_singleton]
  by_cases e : a = l[k]
  · rw [if_pos e]; exact List.contains_iff_mem.2 (hm.2 (.inr e))
  · rw [if_neg e, Bool.eq_iff_iff, List.contains_iff_mem, List.contains_iff_mem, hm]; simp [e]
theorem Nums.turnsLt {w w' : World} {A : Option Addr} {l : List Int} {T : Nat → Prop} (h : Nums w A l) (ht : Turns T w w') (hd : 0 < l.length → ∀ b off, A = some ⟨b, off, none⟩ → b < w.heap.size → ¬ T b) : Nums w' A l := fun k hk => by
  obtain ⟨b, off, e, hlt, hc⟩ := h k hk
  exact ⟨b, off, e, Nat.lt_of_lt_of_le hlt ht.size, ht.cell hc (hd (by omega) b off e hlt)⟩
theorem Nums.lt0 {w : World} {A : Option Addr} {l : List Int} (h : Nums w A l) (hl : 0 < l.length) : ∀ b off, A = some ⟨b, off, none⟩ → b < w.heap.size := fun b off e => by
  obtain ⟨b', off', e', hlt, _⟩ := h 0 hl
  rw [e] at e'; cases e'; exact hlt

end Go.Proofs.Ythonodimjglnfaa

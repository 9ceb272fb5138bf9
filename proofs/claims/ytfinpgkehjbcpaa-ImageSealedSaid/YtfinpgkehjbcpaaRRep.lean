/- Chapter 02: how the reference's memory lies in the program's memory. -/
import Derived.Test.YtfinpgkehjbcpaaHMaps
import Derived.Test.YtfinpgkehjbcpaaHRows
import Derived.Maps.AppendAt
namespace Go.Proofs.Ytfinpgkehjbcpaa
open Go.ChangeShapes Go.WideShapes Go.ChangeAt Go.RowKit Go.Deep Go.Joins Go.Maps
set_option linter.unusedVariables false
set_option linter.unusedSimpArgs false

def objF (L : List Ob) (fv : Nat → Value) (i : Nat) : Nat → Value
  | 0 => .int .i64 (L.getD i zeroO).cls
  | 1 => .int .i64 (L.getD i zeroO).fmt
  | 2 => .int .i64 (L.getD i zeroO).hash
  | _ => fv i
/-- the reference's memory m lies in the blocks of R, its box is r -/
structure RM (w : World) (R : Nat → Prop) (r : Nat) (m : Hp) (lv : Value) (fv : Nat → Value) : Prop where
  good : Good m
  box : w.heap[r]? = some (.cells #[.int .i64 (m.size : Int), .int .i64 (m.made : Int), lv] 61 (0, 0))
  own : w.ownsRow 0 75 4 lv m.L.length (rowsL m.L.length 4 (objF m.L fv))
  fields : ∀ (i : Nat) (hi : i < m.L.length), w.ownsRow 0 3 1 (fv i) m.L[i].F.length (m.L[i].F.map (Value.int .i64))
  apart : ∀ i j, i < j → j < m.L.length → (fv i).ownBlock ≠ none → (fv i).ownBlock ≠ (fv j).ownBlock
  inR : R r ∧ (∀ k, lv.ownBlock = some k → R k) ∧ ∀ i, i < m.L.length → ∀ k, (fv i).ownBlock = some k → R k
  lt : ∀ k, R k → k < w.heap.size
section
variable {w w' : World} {R : Nat → Prop} {r : Nat} {m : Hp} {lv : Value} {fv : Nat → Value}
theorem ownsRow_same {base n size : Nat} {e : TypeId} {v : Value} {xs : List Value} (h : w.ownsRow base e size v n xs) (hs : w.heap.size ≤ w'.heap.size) (hb : ∀ k, v.ownBlock = some k → w'.heap[k]? = w.heap[k]?) : w'.ownsRow base e size v n xs := by
  refine ⟨h.1, ?_⟩
  rcases h.2 with h1 | ⟨g, cap, cur, hv, hg, hh, rest⟩
  · exact .inl h1
  · exact .inr ⟨g, cap, cur, hv, hg, (hb g (by rw [hv]; rfl)).trans hh, rest⟩
theorem RM.same (h : RM w R r m lv fv) (hs : w.heap.size ≤ w'.heap.size) (hb : ∀ k, R k → w'.heap[k]? = w.heap[k]?) : RM w' R r m lv fv :=
  ⟨h.good, (hb r h.inR.1).trans h.box, ownsRow_same h.own hs (fun k hk => hb k (h.inR.2.1 k hk)), fun i hi => ownsRow_same (h.fields i hi) hs (fun k hk => hb k (h.inR.2.2 i hi k hk)), h.apart, h.inR, fun k hk => Nat.lt_of_lt_of_le (h.lt k hk) hs⟩
theorem RM.drewN (h : RM w R r m lv fv) (n : Nat) : RM (w.drewN n) R r m lv fv := h.same (Nat.le_refl _) (fun _ _ => rfl)
theorem RM.below (h : RM w R r m lv fv) (hb : Below w.heap.size w w') : RM w' R r m lv fv := h.same hb.size (fun k hk => hb.block k (h.lt k hk))
theorem RM.c0 (h : RM w R r m lv fv) : w.cell? ⟨r, 0, none⟩ = some (.int .i64 (m.size : Int)) := by simp [World.cell?, h.box]
theorem RM.c1 (h : RM w R r m lv fv) : w.cell? ⟨r, 1, none⟩ = some (.int .i64 (m.made : Int)) := by simp [World.cell?, h.box]
theorem RM.c2 (h : RM w R r m lv fv) : w.cell? ⟨r, 2, none⟩ = some lv := by simp [World.cell?, h.box]
/-- the list's slice, and its object at a place -/
theorem RM.list (h : RM w R r m lv fv) : ∃ A c, lv = .slice A m.L.length c ∧ m.L.length ≤ c ∧ ∀ (i : Nat) (hi : i < m.L.length), ∃ g, A = some ⟨g, 0, none⟩ ∧ w.cell? ⟨g, i * 4, none⟩ = some (.int .i64 m.L[i].cls) ∧ w.cell? ⟨g, i * 4 + 1, none⟩ = some (.int .i64 m.L[i].fmt) ∧ w.cell? ⟨g, i * 4 + 2, none⟩ = some (.int .i64 m.L[i].hash) ∧ w.cell? ⟨g, i * 4 + 3, none⟩ = some (fv i) := by
  rcases h.own.2 with ⟨hv, h0⟩ | ⟨g, cap, cur, hv, hg, hh, h1, h2, _⟩
  · exact ⟨none, 0, by rw [h0]; exact hv, by omega, fun i hi => absurd hi (by omega)⟩
  · have hcell : ∀ i, i < m.L.length → ∀ j, j < 4 → w.cell? ⟨g, i * 4 + j, none⟩ = some (objF m.L fv i j) := fun i hi j hj => by
      have hown := h.own
      rw [hv] at hown
      have := World.ownsRow.cellAt hown (i * 4 + j) (by omega)
      rw [this, rowsL_at hi hj]
    refine ⟨_, cap, hv, h1, fun i hi => ⟨g, rfl, ?_, ?_, ?_, ?_⟩⟩
    · have := hcell i hi 0 (by omega); rw [Nat.add_zero] at this; rw [this]; simp [objF, List.getD_eq_getElem?_getD, List.getElem?_eq_getElem hi]
    · rw [hcell i hi 1 (by omega)]; simp [objF, List.getD_eq_getElem?_getD, List.getElem?_eq_getElem hi]
    · rw [hcell i hi 2 (by omega)]; simp [objF, List.getD_eq_getElem?_getD, List.getElem?_eq_getElem hi]
    · rw [hcell i hi 3 (by omega)]; rfl
/-- an object's fields -/
theorem RM.field (h : RM w R r m lv fv) {i : Nat} (hi : i < m.L.length) : ∃ A c, fv i = .slice A m.L[i].F.length c ∧ m.L[i].F.length ≤ c ∧ ∀ j, j < m.L[i].F.length → ∃ g, A = some ⟨g, 0, none⟩ ∧ w.cell? ⟨g, j, none⟩ = some (.int .i64 (m.L[i].F.getD j 0)) ∧ w.frozen? ⟨g, j, none⟩ = false := by
  have hf := h.fields i hi
  rcases hf.2 with ⟨hv, h0⟩ | ⟨g, cap, cur, hv, hg, hh, h1, h2, _⟩
  · exact ⟨none, 0, by rw [h0]; exact hv, by omega, fun j hj => absurd hj (by omega)⟩
  · refine ⟨_, cap, hv, h1, fun j hj => ⟨g, rfl, ?_, by simp [World.frozen?, hh]⟩⟩
    rw [hv] at hf
    rw [World.ownsRow.cellAt hf j (by omega), List.getElem?_map, List.getElem?_eq_getElem hj, List.getD_eq_getElem?_getD, List.getElem?_eq_getElem hj]; rfl
end
end Go.Proofs.Ytfinpgkehjbcpaa

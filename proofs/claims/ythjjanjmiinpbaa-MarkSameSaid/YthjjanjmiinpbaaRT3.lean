/- Chapter 02: the contract of the reference's Keep: plain words, states. -/
import Derived.Test.YthjjanjmiinpbaaRT2
import Derived.Test.YthjjanjmiinpbaaKRef
import Derived.Test.YthjjanjmiinpbaaRM1
import Derived.Laws.AppendOwnNone
namespace Go.Proofs.Ythjjanjmiinpbaa
open Go.ChangeShapes Go.WideShapes Go.ChangeAt Go.RowKit Go.Deep Go.Joins Go.Maps
set_option linter.unusedVariables false
set_option linter.unusedSimpArgs false

def RKeepPost (R : Nat → Prop) (r : Nat) (m : Hp) (l : List Int) (w : World) (e : Ending) (w' : World) : Prop := ∃ v, e = .returned (.tuple #[v, .int .i64 (keepV m l).2.2]) ∧ Ints w' w.heap.size v (keepV m l).2.1 ∧ RPost R r (keepV m l).1 w w'
theorem rkeep_no {w w' : World} {R : Nat → Prop} {r : Nat} {m : Hp} {l : List Int} {lv : Value} {fv : Nat → Value} (hv : keepV m l = (m, [], 1)) (h : RM w' R r m lv fv) (ht : Turns R w w') : RKeepPost R r m l w (.returned (.tuple #[.slice none 0 0, .int .i64 1])) w' := by
  unfold RKeepPost
  rw [hv]
  exact ⟨_, rfl, World.ownsRow_nil _ _ _ _, R, lv, fv, h, ht, fun k hk => .inl hk⟩
/-- behind the look at the first k objects: what will be, and the kept ones' pointers -/
def KS (W : World) (R : Nat → Prop) (m : Hp) (l : List Int) (fv : Nat → Value) (k : Nat) (kv : Value) (wr : World) : Prop :=
  Below W.heap.size W wr ∧ (∃ lvn fvn, wr.heap[W.heap.size]? = some (.cells #[.int .i64 (m.size : Int), .int .i64 (m.made : Int), lvn] 59 (0, 0)) ∧ LM wr (fun b => R b ∨ since W wr b) (keptTo m.L l k) lvn fvn ∧ (∀ b, lvn.ownBlock = some b → W.heap.size < b) ∧ ∀ i, i < (keptTo m.L l k).length → ∃ j, j < k ∧ fvn i = fv j) ∧
  wr.ownsRow (W.heap.size + 1) 3 1 kv (kptr m.L l k).length ((kptr m.L l k).map (Value.int .i64)) ∧ fitsTo m.L l k = true
theorem fits_no {m : Hp} {l : List Int} {k : Nat} (hk : k < m.L.length) (hy : kp m.L l k = true) {q : Nat} (hq : q < npO m.L[k]) (hb : okW l (wordO m.L[k] q) = false) : keepV m l = (m, [], 1) := by
  have hf : fitsO l m.L[k] = false := by
    unfold fitsO
    rw [List.all_eq_false]
    exact ⟨_, wordO_mem hq, by unfold okW at hb; rw [hb]; simp⟩
  have hm : m.L[k] ∈ keptTo m.L l m.L.length := by
    obtain ⟨rr, hr⟩ := keptTo_pre (L := m.L) (l := l) m.L.length (Nat.le_refl _) (k + 1) (by omega)
    rw [hr, keptTo_succ hk, hy, if_pos rfl]
    simp
  have hT : fitsTo m.L l m.L.length = false := by
    unfold fitsTo
    rw [List.all_eq_false]
    exact ⟨_, hm, by rw [hf]; simp⟩
  unfold keepV
  rw [hT, Bool.and_false]; rfl
theorem LM.cells {w : World} {R : Nat → Prop} {L : List Ob} {lv : Value} {fv : Nat → Value} (h : LM w R L lv fv) {i : Nat} (hi : i < L.length) : ∃ g c, lv = .slice (some ⟨g, 0, none⟩) L.length c ∧ w.cell? ⟨g, i * 4, none⟩ = some (.int .i64 L[i].cls) ∧ w.cell? ⟨g, i * 4 + 1, none⟩ = some (.int .i64 L[i].fmt) ∧ w.cell? ⟨g, i * 4 + 2, none⟩ = some (.int .i64 L[i].hash) ∧ w.cell? ⟨g, i * 4 + 3, none⟩ = some (fv i) := by
  rcases h.own.2 with ⟨hv, h0⟩ | ⟨g, cap, cur, hv, hg, hh, h1, h2, _⟩
  · omega
  · have hcell : ∀ i, i < L.length → ∀ j, j < 4 → w.cell? ⟨g, i * 4 + j, none⟩ = some (objF L fv i j) := fun i hi j hj => by
      have hown := h.own
      rw [hv] at hown
      have := World.ownsRow.cellAt hown (i * 4 + j) (by omega)
      rw [this, rowsL_at hi hj]
    refine ⟨g, cap, hv, ?_, ?_, ?_, ?_⟩
    · have := hcell i hi 0 (by omega); rw [Nat.add_zero] at this; rw [this]; simp [objF, List.getD_eq_getElem?_getD, List.getElem?_eq_getElem hi]
    · rw [hcell i hi 1 (by omega)]; simp [objF, List.getD_eq_getElem?_getD, List.getElem?_eq_getElem hi]
    · rw [hcell i hi 2 (by omega)]; simp [objF, List.getD_eq_getElem?_getD, List.getElem?_eq_getElem hi]
    · rw [hcell i hi 3 (by omega)]; rfl
theorem LM.nums {w : World} {R : Nat → Prop} {L : List Ob} {lv : Value} {fv : Nat → Value} (h : LM w R L lv fv) {i : Nat} (hi : i < L.length) : ∃ A c, fv i = .slice A L[i].F.length c ∧ Nums w A L[i].F := by
  obtain ⟨A, c, e, _, hn, _⟩ := (show Ints w 0 (fv i) L[i].F from h.fields i hi).nums
  exact ⟨A, c, e, hn⟩
theorem keptTo_good {m : Hp} (h : Good m) (l : List Int) : Good { m with L := keptTo m.L l m.L.length } := by
  have hs := keptTo_szs m.L l m.L.length (Nat.le_refl _)
  rw [adr_end] at hs
  have hf := h.fits
  refine ⟨h.lo, h.hi, h.made, by show 3 + szs (keptTo m.L l m.L.length) ≤ m.size; omega, fun o ho => ?_, fun o ho => ?_, fun o ho => ?_⟩ <;> obtain ⟨i, hi, _, _, rfl⟩ := keptTo_mem (Nat.le_refl _) ho
  · exact h.fmt _ (List.getElem_mem hi)
  · exact h.len _ (List.getElem_mem hi)
  · exact h.word _ (List.getElem_mem hi)
theorem findV_neg {l : List Int} {x : Int} : decide (findV l x < 0) = !l.contains x := by
  by_cases h : x ∈ l
  · obtain ⟨k, _, _, e⟩ := findV_some h
    rw [e, List.contains_iff_mem.2 h]
    exact decide_eq_false (by omega)
  · rw [findV_none h, show l.contains x = false by simpa using h]; rfl
theorem findV_pos {l : List Int} {x : Int} : decide (0 ≤ findV l x) = l.contains x := by
  by_cases h : x ∈ l
  · obtain ⟨k, _, _, e⟩ := findV_some h
    rw [e, List.contains_iff_mem.2 h]
    exact decide_eq_true (by omega)
  · rw [findV_none h, show l.contains x = false by simpa using h]; rfl
theorem RM.objV {w : World} {R : Nat → Prop} {r : Nat} {m : Hp} {lv : Value} {fv : Nat → Value} (h : RM w R r m lv fv) {i : Nat} (hi : i < m.L.length) : (fv i = .slice none 0 0 ∧ m.L[i].F = []) ∨ ∃ g c, fv i = .slice (some ⟨g, 0, none⟩) m.L[i].F.length c ∧ ∀ (j : Nat) (u : Value), (m.L[i].F.map (Value.int .i64))[j]? = some u → w.cell? ((⟨g, 0, none⟩ : Addr).add j) = some u := by
  have hf := h.fields i hi
  rcases hf.2 with ⟨hv, h0⟩ | ⟨g, cap, cur, hv, hg, hh, h1, h2, _⟩
  · exact .inl ⟨hv, List.eq_nil_of_length_eq_zero h0⟩
  · refine .inr ⟨g, cap, hv, fun j u hu => ?_⟩
    rw [hv] at hf
    have hj : j < m.L[i].F.length := by have := (List.getElem?_eq_some_iff.1 hu).1; simpa using this
    rw [add_plain, Nat.zero_add, World.ownsRow.cellAt hf j (by omega)]; exact hu
end Go.Proofs.Ythjjanjmiinpbaa

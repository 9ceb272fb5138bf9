/- Chapter 02: the contract of move. -/
import Derived.Test.YthonodimjglnfaaHK2
import Derived.BigRegion
namespace Go.Proofs.Ythonodimjglnfaa
open Go.ChangeShapes Go.WideShapes Go.ChangeAt Go.RowKit Go.Deep Go.Joins Go.Maps
set_option linter.unusedVariables false
set_option linter.unusedSimpArgs false

theorem plK_iff {L : List Ob} {l : List Int} : ∀ k, k ≤ L.length → ∀ a : Int, plK L l k a = true ↔ ∃ j, j < (keptTo L l k).length ∧ (adr (keptTo L l k) j : Int) = a
  | 0, _, a => by simp [plK, keptTo_zero]
  | k + 1, hk, a => by
    have ih := plK_iff (L := L) (l := l) k (Nat.le_of_succ_le hk) a
    cases hy : kp L l k
    · rw [plK_no hy, ih, keptTo_succ (show k < L.length by omega), hy]; simp
    · rw [plK_yes hy, keptTo_succ (show k < L.length by omega), hy, if_pos rfl]
      have hl : (keptTo L l k ++ [L[k]]).length = (keptTo L l k).length + 1 := by simp
      by_cases e : a = ((3 + szs (keptTo L l k) : Nat) : Int)
      · rw [if_pos e]
        exact ⟨fun _ => ⟨(keptTo L l k).length, by omega, by rw [adr_app _ _ _ (Nat.le_refl _), adr_end]; exact e.symm⟩, fun _ => rfl⟩
      · rw [if_neg e, ih]
        constructor
        · rintro ⟨j, h1, h2⟩
          exact ⟨j, by omega, by rw [adr_app _ _ _ (by omega)]; exact h2⟩
        · rintro ⟨j, h1, h2⟩
          rcases Nat.lt_or_ge j (keptTo L l k).length with q | q
          · exact ⟨j, q, by rw [adr_app _ _ _ (by omega)] at h2; exact h2⟩
          · obtain rfl : j = (keptTo L l k).length := by omega
            rw [adr_app _ _ _ (Nat.le_refl _), adr_end] at h2
            exact absurd h2.symm e
theorem toV_InI {m : Hp} (h : Good m) (l : List Int) (x : Int) : InI (toV m.L l x) := by
  unfold toV
  cases hp : plc m.L x with
  | none => dsimp only; unfold InI; omega
  | some i =>
    dsimp only
    split
    · have h1 := keptTo_szs m.L l i (Nat.le_of_lt (plc_some hp).1)
      have h2 := adr_bd h i
      unfold toAt InI; omega
    · unfold InI; omega
theorem sgm_InI {m : Hp} (h : Good m) (l : List Int) {x : Int} (hx : InI x) : InI (sgm m.L l x) := by
  unfold sgm; split
  · exact toV_InI h l x
  · exact hx
def keptM (m : Hp) (l : List Int) : Hp := { m with L := (keptTo m.L l m.L.length).map (turnO (sgm m.L l)) }
theorem keptM_good {m : Hp} (h : Good m) (l : List Int) : Good (keptM m l) := by
  have hs := keptTo_szs m.L l m.L.length (Nat.le_refl _)
  rw [adr_end] at hs
  have hf := h.fits
  refine ⟨h.lo, h.hi, h.made, by show 3 + szs ((keptTo m.L l m.L.length).map (turnO (sgm m.L l))) ≤ m.size; rw [szs_map_turn]; omega, fun o ho => ?_, fun o ho => ?_, fun o ho => ?_⟩ <;> obtain ⟨o', ho', rfl⟩ := List.mem_map.1 ho <;> obtain ⟨i, hi, _, _, rfl⟩ := keptTo_mem (Nat.le_refl _) ho'
  · show 0 ≤ m.L[i].fmt ∧ m.L[i].fmt ≤ 2
    exact h.fmt _ (List.getElem_mem hi)
  · rw [turnO_len]; exact h.len _ (List.getElem_mem hi)
  · have hw := h.word _ (List.getElem_mem hi)
    refine ⟨sgm_InI h l hw.1, hw.2.1, fun x hx => ?_⟩
    unfold turnO at hx
    dsimp only at hx
    split at hx
    · obtain ⟨y, hy, rfl⟩ := List.mem_map.1 hx
      exact sgm_InI h l (hw.2.2 y hy)
    · exact hw.2.2 x hx
theorem PM.kept {w w' : World} {s bw bm pm : Nat} {m : Hp} {l : List Int} (h : PM w s bw bm m) {ys : List Int} (hrow : w'.heap[bw]? = some (.cells ((ys).map (Value.int .i64)).toArray 3 (0, 0))) (hlen : ys.length = m.size) (hw : Words (keptM m l).L ys)
    (hbox : w'.heap[s]? = some (.cells #[.slice (some ⟨bw, 0, none⟩) m.size m.size, .int .i64 ((3 + szs (keptTo m.L l m.L.length) : Nat) : Int), .int .i64 (m.made : Int), .map (some pm)] 71 (0, 0)))
    (hmap : BoolMap w' pm (keptTo m.L l m.L.length).length (plK m.L l m.L.length)) : PM w' s bw pm (keptM m l) := by
  have hla : (keptM m l).L.map (fun o => o.F.length) = (keptTo m.L l m.L.length).map (fun o => o.F.length) := turned_lens _ _
  have hll : (keptM m l).L.length = (keptTo m.L l m.L.length).length := by unfold keptM; simp
  refine ⟨keptM_good h.good l, ?_, ⟨ys, hlen, hw, hrow⟩, _, _, by rw [hll]; exact Nat.le_refl _, hmap, fun a ha => ?_⟩
  · rw [hbox]
    show some (Obj.cells #[_, .int .i64 ((3 + szs (keptTo m.L l m.L.length) : Nat) : Int), _, _] _ _) = some (Obj.cells #[_, .int .i64 (adr (keptM m l).L (keptM m l).L.length : Int), _, _] _ _)
    rw [adr_congr hla, hll, adr_end]; rfl
  · rw [plK_iff _ (Nat.le_refl _), hll]
    simp only [adr_congr hla]
def gone (s bw : Nat) (b : Nat) : Prop := b = s ∨ b = bw
def MovePost (s bw : Nat) (m : Hp) (l : List Int) (w : World) (e : Ending) (w' : World) : Prop := e = .returned (.tuple #[]) ∧ ∃ pm, PM w' s bw pm (keptM m l) ∧ w.heap.size ≤ pm ∧ Turns (gone s bw) w w'

end Go.Proofs.Ythonodimjglnfaa

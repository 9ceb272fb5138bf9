/- Chapter 06: plain words for the laws of spaced and joined sources. -/
import Derived.Test.YtdcibeagljeioaaS5
namespace Go.Proofs.Ytdcibeagljeioaa
open Go.ChangeShapes Go.WideShapes Go.ChangeAt Go.RowKit
set_option linter.unusedVariables false
set_option linter.unusedSimpArgs false
def cutB (n : Nat) (s : ByteArray) : ByteArray := if n < s.size then s.extract 0 n else s
theorem cut_le (n : Nat) (s : ByteArray) : (cutB n s).size ≤ n := by
  unfold cutB
  split
  · simp; omega
  · omega
theorem drop_two {A : List ATok} {k : Nat} (h : k + 1 < A.length) : A.drop k = A.getD k tz :: A.getD (k + 1) tz :: A.drop (k + 2) := by
  have e1 : A.getD k tz = A[k] := by rw [List.getD_eq_getElem?_getD, List.getElem?_eq_getElem (by omega)]; rfl
  have e2 : A.getD (k + 1) tz = A[k + 1] := by rw [List.getD_eq_getElem?_getD, List.getElem?_eq_getElem h]; rfl
  rw [e1, e2, List.drop_eq_getElem_cons (by omega), List.drop_eq_getElem_cons h]
theorem spA_step (s : Bs) {A : List ATok} {k : Nat} (h : k + 1 < A.length) : spA s (A.drop k) = (s.drop (A.getD k tz).at_).take ((A.getD (k + 1) tz).at_ - (A.getD k tz).at_) ++ 32 :: spA s (A.drop (k + 1)) := by
  rw [drop_two h]
  have : A.drop (k + 1) = A.getD (k + 1) tz :: A.drop (k + 2) := by
    have := congrArg List.tail (drop_two h)
    simpa using this
  rw [this]
  rfl
theorem spA_last (s : Bs) {A : List ATok} {q : Nat} (h : A.length = q + 1) : spA s (A.drop q) = [] := by
  have : (A.drop q).length = 1 := by simp; omega
  match hA : A.drop q, this with
  | [a], _ => rfl
theorem spaced0 {s : Bs} {A : List ATok} (h : toksV s = .ok A) : ∃ B, toksV (spA s A) = .ok B ∧ B.length = A.length ∧ ∀ k, same3 (B.getD k tz) = same3 (A.getD k tz) := by
  obtain ⟨B, h1, h2⟩ := spaced (s.length + 1) 0 s A h (by simp) (by omega) ((spA s A).length + 1) 0 (by omega)
  refine ⟨B, h1, by have := congrArg List.length h2; simpa using this, fun k => ?_⟩
  have := congrArg (fun l => l.getD k (same3 tz)) h2
  simpa [List.getD_eq_getElem?_getD, List.getElem?_map, Option.getD_map] using this
theorem joined0 {s t : Bs} {A B : List ATok} (h : toksV s = .ok A) (h' : toksV t = .ok B) : toksV (s ++ 32 :: t) = .ok (A.dropLast ++ B.map (ATok.shift (s.length + 1))) := by
  have := joined (s.length + 1) 0 s A t h (by omega) ((s ++ 32 :: t).length + 1) (by omega)
  unfold toksV at h' ⊢
  rw [this, toks_fuel _ (t.length + 1) _ t (by simp; omega) (by omega), show 0 + s.length + 1 = 0 + (s.length + 1) by omega, toks_shift, h']
  rfl
theorem join_left {A B : List ATok} {q k : Nat} (h : A.length = q + 1) (hk : k < q) : (A.dropLast ++ B).getD k tz = A.getD k tz := by
  have hl : k < A.dropLast.length := by simp; omega
  rw [List.getD_eq_getElem?_getD, List.getElem?_append_left hl, List.getElem?_dropLast, if_pos (by omega), ← List.getD_eq_getElem?_getD]
theorem join_right {A B : List ATok} {q k : Nat} (h : A.length = q + 1) : (A.dropLast ++ B).getD (q + k) tz = B.getD k tz := by
  have hl : A.dropLast.length = q := by simp; omega
  rw [List.getD_eq_getElem?_getD, List.getElem?_append_right (by omega), hl, Nat.add_sub_cancel_left, ← List.getD_eq_getElem?_getD]
end Go.Proofs.Ytdcibeagljeioaa

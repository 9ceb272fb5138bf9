/- Rows of cells of the call's own, of any size. -/
import Derived.Test.YtfinpgkehjbcpaaMem
namespace Go.Proofs.Ytfinpgkehjbcpaa
open Go.ChangeShapes Go.WideShapes Go.ChangeAt Go.RowKit
set_option linter.unusedVariables false
set_option linter.unusedSimpArgs false
/-- the cells of n rows -/
def rowsL (n size : Nat) (F : Nat → Nat → Value) : List Value := (List.range n).flatMap fun i => (List.range size).map (F i)
theorem rowsL_succ (n size : Nat) (F : Nat → Nat → Value) : rowsL (n + 1) size F = rowsL n size F ++ (List.range size).map (F n) := by
  unfold rowsL; rw [List.range_succ, List.flatMap_append]; simp
theorem rowsL_len (n size : Nat) (F : Nat → Nat → Value) : (rowsL n size F).length = n * size := by
  induction n with
  | zero => simp [rowsL]
  | succ n ih => rw [rowsL_succ, List.length_append, ih, Nat.succ_mul]; simp
theorem rowsL_at {n size : Nat} {F : Nat → Nat → Value} {i j : Nat} (hi : i < n) (hj : j < size) : (rowsL n size F)[i * size + j]? = some (F i j) := by
  induction n with
  | zero => omega
  | succ n ih =>
    rw [rowsL_succ]
    rcases Nat.lt_or_ge i n with h | h
    · have hlt : i * size + j < n * size := Nat.lt_of_lt_of_le (by omega) (Nat.mul_le_mul_right size (show i + 1 ≤ n from h) |> fun q => (by rw [Nat.succ_mul] at q; exact q : i * size + size ≤ n * size))
      rw [List.getElem?_append_left (by rw [rowsL_len]; exact hlt)]
      exact ih h
    · obtain rfl : i = n := by omega
      rw [List.getElem?_append_right (by rw [rowsL_len]; omega), rowsL_len, show i * size + j - i * size = j by omega]
      simp [hj]
theorem rowsL_read {n size : Nat} {F : Nat → Nat → Value} {w : World} {b off : Nat} (hs : 0 < size) (hc : ∀ i, i < n → ∀ j, j < size → w.cell? ⟨b, off + i * size + j, none⟩ = some (F i j)) : ∀ (j : Nat) (u : Value), (rowsL n size F)[j]? = some u → w.cell? ((⟨b, off, none⟩ : Addr).add j) = some u := by
  intro j u hu
  obtain ⟨hlt, _⟩ := List.getElem?_eq_some_iff.1 hu
  rw [rowsL_len] at hlt
  have hi : j / size < n := Nat.div_lt_of_lt_mul (by rw [Nat.mul_comm]; exact hlt)
  have hj : j % size < size := Nat.mod_lt _ hs
  have e : j / size * size + j % size = j := Nat.div_add_mod' j size
  have h := rowsL_at (F := F) hi hj
  rw [e, hu] at h
  rw [add_plain, Option.some.inj h, ← hc _ hi _ hj, Nat.add_assoc, e]
theorem rowsL_one {n size : Nat} {F : Nat → Nat → Value} (h : ∀ i, i < n → ∀ j, j < size → (F i j).oneCell' = true) : ∀ u ∈ rowsL n size F, u.oneCell' = true := by
  intro u hu
  unfold rowsL at hu
  simp only [List.mem_flatMap, List.mem_range, List.mem_map] at hu
  obtain ⟨i, hi, j, hj, rfl⟩ := hu
  exact h i hi j hj
theorem rowsL_congr {n size : Nat} {F G : Nat → Nat → Value} (h : ∀ i, i < n → ∀ j, j < size → F i j = G i j) : rowsL n size F = rowsL n size G := by
  induction n with
  | zero => rfl
  | succ n ih =>
    rw [rowsL_succ, rowsL_succ, ih (fun i hi => h i (by omega))]
    congr 1
    apply List.map_congr_left
    intro j hj
    exact h n (by omega) j (List.mem_range.1 hj)
/-- a row of the call's own reads as rows -/
theorem own_rows {w : World} {base n size : Nat} {e : TypeId} {v : Value} {F : Nat → Nat → Value} (h : w.ownsRow base e size v n (rowsL n size F)) : ∃ A c, v = .slice A n c ∧ n ≤ c ∧ c ≤ 9223372036854775807 ∧ Row w A n size F := by
  rcases h.2 with ⟨rfl, h0⟩ | ⟨g, cap, cur, rfl, hg, hh, h1, h2, _⟩
  · subst h0; exact ⟨none, 0, rfl, Nat.le_refl _, by omega, fun h => absurd h (by omega)⟩
  · refine ⟨_, cap, rfl, h1, h2, fun hn => ⟨g, 0, rfl, (h.lt g rfl).2, fun i hi j hj => ?_⟩⟩
    have hlt : i * size + j < n * size := by have := Nat.mul_le_mul_right size (show i + 1 ≤ n from hi); rw [Nat.succ_mul] at this; omega
    have := World.ownsRow.cellAt h (i * size + j) (by simpa using hlt)
    rw [Nat.zero_add, this, rowsL_at hi hj]
end Go.Proofs.Ytfinpgkehjbcpaa

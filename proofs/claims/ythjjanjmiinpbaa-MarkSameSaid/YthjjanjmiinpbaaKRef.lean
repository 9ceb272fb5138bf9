/- Chapter 02: the reference's way to keep comes to the same: plain mathematics. -/
import Derived.Test.YthjjanjmiinpbaaHK4
namespace Go.Proofs.Ythjjanjmiinpbaa
set_option linter.unusedVariables false
set_option linter.unusedSimpArgs false
def kptr (L : List Ob) (l : List Int) (k : Nat) : List Int := ((List.range k).filter (kp L l)).map (ptr L)
theorem kptr_zero (L : List Ob) (l : List Int) : kptr L l 0 = [] := rfl
theorem kptr_succ (L : List Ob) (l : List Int) (k : Nat) : kptr L l (k + 1) = if kp L l k then kptr L l k ++ [ptr L k] else kptr L l k := by
  unfold kptr
  rw [List.range_succ, List.filter_append, List.map_append]
  by_cases h : kp L l k = true
  · rw [if_pos h, List.filter_cons_of_pos h]; rfl
  · rw [if_neg h, List.filter_cons_of_neg h]; simp
theorem kptr_len (L : List Ob) (l : List Int) (k : Nat) : (kptr L l k).length = (keptTo L l k).length := by unfold kptr keptTo; simp
theorem kptr_mem {L : List Ob} {l : List Int} {k : Nat} {x : Int} (h : x ∈ kptr L l k) : ∃ i, i < k ∧ kp L l i = true ∧ x = ptr L i := by
  unfold kptr at h
  obtain ⟨i, hi, rfl⟩ := List.mem_map.1 h
  obtain ⟨h1, h2⟩ := List.mem_filter.1 hi
  exact ⟨i, List.mem_range.1 h1, h2, rfl⟩
theorem ptr_inj {L : List Ob} {i j : Nat} (hi : i ≤ L.length) (hj : j ≤ L.length) (h : ptr L i = ptr L j) : i = j := adr_inj L hi hj (by unfold ptr at h; omega)
theorem findN_append : ∀ (A B : List Int) (x : Int), findN (A ++ B) x = match findN A x with | some j => some j | none => (findN B x).map (· + A.length)
  | [], B, x => by simp [findN]
  | a :: A, B, x => by
    have ih := findN_append A B x
    simp only [List.cons_append, findN]
    by_cases h : a = x
    · simp only [if_pos h]
    · simp only [if_neg h, ih]
      cases findN A x with
      | some j => rfl
      | none =>
        cases findN B x with
        | none => rfl
        | some j => simp; omega
theorem find_kptr {L : List Ob} {l : List Int} : ∀ k, k ≤ L.length → ∀ i, i < k → kp L l i = true → findN (kptr L l k) (ptr L i) = some (keptTo L l i).length
  | 0, _, i, hi, _ => absurd hi (by omega)
  | k + 1, hk, i, hi, hy => by
    have ih := find_kptr (L := L) (l := l) k (by omega)
    rw [kptr_succ]
    rcases Nat.lt_or_ge i k with q | q
    · split
      · rw [findN_append, ih i q hy]
      · exact ih i q hy
    · obtain rfl : i = k := by omega
      rw [if_pos hy, findN_append]
      have hn : findN (kptr L l i) (ptr L i) = none := findN_none.2 (fun hm => by
        obtain ⟨j, hj, _, e⟩ := kptr_mem hm
        have := ptr_inj (by omega) (by omega) e
        omega)
      rw [hn]
      simp [findN, kptr_len]
theorem keptTo_pre {L : List Ob} {l : List Int} : ∀ k, k ≤ L.length → ∀ i, i ≤ k → ∃ r, keptTo L l k = keptTo L l i ++ r
  | 0, _, i, hi => by obtain rfl : i = 0 := by omega
                      exact ⟨[], by simp⟩
  | k + 1, hk, i, hi => by
    rcases Nat.lt_or_ge i (k + 1) with q | q
    · obtain ⟨r, hr⟩ := keptTo_pre (L := L) (l := l) k (by omega) i (by omega)
      rw [keptTo_succ (show k < L.length by omega)]
      split
      · exact ⟨r ++ [L[k]], by rw [hr]; simp⟩
      · exact ⟨r, hr⟩
    · obtain rfl : i = k + 1 := by omega
      exact ⟨[], by simp⟩
/-- where a kept one's object lies in the new list -/
theorem now_at {L : List Ob} {l : List Int} {i : Nat} (hi : i < L.length) (hy : kp L l i = true) : (keptTo L l i).length < (keptTo L l L.length).length ∧ ptr (keptTo L l L.length) (keptTo L l i).length = toAt L l i := by
  obtain ⟨r, hr⟩ := keptTo_pre (L := L) (l := l) L.length (Nat.le_refl _) (i + 1) (by omega)
  rw [keptTo_succ hi, hy, if_pos rfl] at hr
  constructor
  · rw [hr]; simp
  · unfold ptr toAt adr
    rw [hr, List.append_assoc, List.take_left']
    rfl
theorem sb_kept {L : List Ob} {l : List Int} {i : Nat} (hi : i < L.length) (hy : kp L l i = true) : sbV (kptr L l L.length) (ptrs (keptTo L l L.length)) (ptr L i) = toAt L l i := by
  unfold sbV
  rw [find_kptr _ (Nat.le_refl _) i hi hy]
  obtain ⟨h1, h2⟩ := now_at hi hy
  dsimp only
  rw [List.getD_eq_getElem?_getD]
  unfold ptrs
  rw [List.getElem?_map, List.getElem?_range h1]
  exact h2
theorem sb_valid {L : List Ob} {l : List Int} (hv : l.all (isV L) = true) {x : Int} (hx : x ∈ l) : sbV (kptr L l L.length) (ptrs (keptTo L l L.length)) x = toV L l x := by
  obtain ⟨i, hi, rfl⟩ := isV_iff.1 (List.all_eq_true.1 hv x hx)
  have hy : kp L l i = true := List.contains_iff_mem.2 hx
  rw [sb_kept hi hy, toV_at hi, hy]; rfl
theorem sb_words {m : Hp} (hg : Good m) {l : List Int} (hv : l.all (isV m.L) = true) {o : Ob} (hf : fitsO l o = true) {x : Int} (hx : x ∈ wordsO o) : sbV (kptr m.L l m.L.length) (ptrs (keptTo m.L l m.L.length)) x = sgm m.L l x := by
  cases hp : isPointerV x
  · rw [sgm_no hp]
    refine sbV_none (fun hm => ?_)
    obtain ⟨i, hi, hy, e⟩ := kptr_mem hm
    have : isV m.L x = true := isV_iff.2 ⟨i, hi, e.symm⟩
    rw [isV_pointer hg this] at hp; cases hp
  · rw [sgm_yes hp]
    have := List.all_eq_true.1 hf x hx
    rw [hp] at this
    have hc : l.contains x = true := by simpa using this
    exact sb_valid hv (List.contains_iff_mem.1 hc)
theorem turn_words {m : Hp} (hg : Good m) {l : List Int} (hv : l.all (isV m.L) = true) {o : Ob} (hf : fitsO l o = true) : turnO (sbV (kptr m.L l m.L.length) (ptrs (keptTo m.L l m.L.length))) o = turnO (sgm m.L l) o :=
  turnO_congr (sb_words hg hv hf (by simp [wordsO])) (fun h0 x hx => sb_words hg hv hf (by unfold wordsO; rw [if_pos h0]; exact List.mem_cons_of_mem _ hx))
theorem turn_all {m : Hp} (hg : Good m) {l : List Int} (hv : l.all (isV m.L) = true) (hf : fitsTo m.L l m.L.length = true) : (keptTo m.L l m.L.length).map (turnO (sbV (kptr m.L l m.L.length) (ptrs (keptTo m.L l m.L.length)))) = (keptTo m.L l m.L.length).map (turnO (sgm m.L l)) :=
  List.map_congr_left (fun o ho => turn_words hg hv (List.all_eq_true.1 hf o ho))
end Go.Proofs.Ythjjanjmiinpbaa

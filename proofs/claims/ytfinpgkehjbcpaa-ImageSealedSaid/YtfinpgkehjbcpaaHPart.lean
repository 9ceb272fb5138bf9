/- Chapter 02: an object whose words are turned one after the other: plain mathematics. -/
import Derived.Test.YtfinpgkehjbcpaaHKeep
namespace Go.Proofs.Ytfinpgkehjbcpaa
set_option linter.unusedVariables false
set_option linter.unusedSimpArgs false
/-- the place, within an object, of its word number q -/
def wix (q : Nat) : Nat := if q = 0 then 1 else q + 2
/-- how many words an object has -/
def npO (o : Ob) : Nat := if o.fmt = 0 then o.F.length + 1 else 1
/-- its first q words are turned -/
def partO (g : Int → Int) (o : Ob) (q : Nat) : Ob := if q = 0 then o else ⟨g o.cls, o.fmt, o.hash, (o.F.take (q - 1)).map g ++ o.F.drop (q - 1)⟩
theorem partO_zero (g : Int → Int) (o : Ob) : partO g o 0 = o := rfl
theorem partO_len (g : Int → Int) (o : Ob) (q : Nat) : (partO g o q).F.length = o.F.length := by
  unfold partO
  split
  · rfl
  · simp; omega
theorem partO_end (g : Int → Int) (o : Ob) : partO g o (npO o) = turnO g o := by
  unfold partO npO turnO
  by_cases h : o.fmt = 0
  · simp [h]
  · simp [h]
theorem wix_lt {o : Ob} {q : Nat} (h : q < npO o) : wix q < o.F.length + 3 := by
  unfold wix npO at *
  split at h <;> split <;> omega
/-- the word number q as it was -/
def wordO (o : Ob) (q : Nat) : Int := (encO o).getD (wix q) 0
theorem part_word (g : Int → Int) {o : Ob} {q : Nat} (h : q < npO o) : (encO (partO g o q)).getD (wix q) 0 = wordO o q := by
  unfold wordO partO
  by_cases hq : q = 0
  · rw [if_pos hq]
  · rw [if_neg hq]
    obtain ⟨j, rfl⟩ : ∃ j, q = j + 1 := ⟨q - 1, by omega⟩
    have hj : j < o.F.length := by unfold npO at h; split at h <;> omega
    have e : wix (j + 1) = j + 1 + 1 + 1 := by unfold wix; rw [if_neg (by omega)]
    rw [e]
    show ((o.F.take (j + 1 - 1)).map g ++ o.F.drop (j + 1 - 1)).getD j 0 = o.F.getD j 0
    rw [Nat.add_sub_cancel, List.getD_eq_getElem?_getD, List.getElem?_append_right (by simp; omega)]
    simp [List.getElem?_drop, Nat.min_eq_left (Nat.le_of_lt hj)]
theorem part_set (g : Int → Int) {o : Ob} {q : Nat} (h : q < npO o) : encO (partO g o (q + 1)) = (encO (partO g o q)).set (wix q) (g (wordO o q)) := by
  unfold wordO
  by_cases hq : q = 0
  · subst hq
    unfold partO wix encO
    simp
  · obtain ⟨j, rfl⟩ : ∃ j, q = j + 1 := ⟨q - 1, by omega⟩
    have hj : j < o.F.length := by unfold npO at h; split at h <;> omega
    have e : wix (j + 1) = j + 1 + 1 + 1 := by unfold wix; rw [if_neg (by omega)]
    rw [e]
    have e1 : partO g o (j + 1 + 1) = ⟨g o.cls, o.fmt, o.hash, (o.F.take (j + 1)).map g ++ o.F.drop (j + 1)⟩ := by unfold partO; rw [if_neg (by omega)]; rfl
    have e2 : partO g o (j + 1) = ⟨g o.cls, o.fmt, o.hash, (o.F.take j).map g ++ o.F.drop j⟩ := by unfold partO; rw [if_neg (by omega)]; rfl
    rw [e1, e2]
    have hset : (o.F.take (j + 1)).map g ++ o.F.drop (j + 1) = ((o.F.take j).map g ++ o.F.drop j).set j (g (o.F.getD j 0)) := by
      rw [List.set_append_right _ _ (by simp; omega), List.length_map, List.length_take, Nat.min_eq_left (by omega), Nat.sub_self, List.take_succ_eq_append_getElem hj]
      conv => rhs; rw [List.drop_eq_getElem_cons hj]
      simp only [List.getD_eq_getElem?_getD, List.getElem?_eq_getElem hj, List.map_append, List.append_assoc]
      rfl
    show _ :: _ :: _ :: _ = _ :: _ :: _ :: (((o.F.take j).map g ++ o.F.drop j).set j (g (o.F.getD j 0)))
    rw [hset]
    simp
theorem wordO_zero (o : Ob) : wordO o 0 = o.cls := rfl
/-- a word of an object is its class, or one of its fields, if they are words -/
theorem wordO_mem {o : Ob} {q : Nat} (h : q < npO o) : wordO o q ∈ wordsO o := by
  unfold wordO wordsO
  by_cases hq : q = 0
  · subst hq; simp [wix, encO]
  · obtain ⟨j, rfl⟩ : ∃ j, q = j + 1 := ⟨q - 1, by omega⟩
    have hf : o.fmt = 0 := by unfold npO at h; split at h; assumption; omega
    have hj : j < o.F.length := by unfold npO at h; rw [if_pos hf] at h; omega
    have e : wix (j + 1) = j + 1 + 1 + 1 := by unfold wix; rw [if_neg (by omega)]
    rw [e, if_pos hf]
    refine List.mem_cons_of_mem _ ?_
    show o.F.getD j 0 ∈ o.F
    rw [List.getD_eq_getElem?_getD, List.getElem?_eq_getElem hj]
    exact List.getElem_mem hj
theorem wordsO_at (o : Ob) : wordsO o = (List.range (npO o)).map (wordO o) := by
  apply List.ext_getElem?
  intro q
  by_cases hq : q < npO o
  · rw [List.getElem?_map, List.getElem?_range hq]
    unfold wordsO
    match q with
    | 0 => rfl
    | j + 1 =>
      have hf : o.fmt = 0 := by unfold npO at hq; split at hq; assumption; omega
      have hj : j < o.F.length := by unfold npO at hq; rw [if_pos hf] at hq; omega
      rw [if_pos hf]
      show o.F[j]? = some (o.F.getD j 0)
      rw [List.getD_eq_getElem?_getD, List.getElem?_eq_getElem hj]; rfl
  · have hl : (wordsO o).length = npO o := by unfold wordsO npO; split <;> simp
    rw [List.getElem?_eq_none (by omega), List.getElem?_eq_none (by simp; omega)]
/-- the pointers' list at a place -/
def prsV (t nf : Nat) (fm : Int) : List Int := ((t : Int) + 1) :: (if fm = 0 then (List.range nf).map (fun i : Nat => (t : Int) + 3 + (i : Int)) else [])
theorem prs_len (t : Nat) (o : Ob) : (prsV t o.F.length o.fmt).length = npO o := by unfold prsV npO; split <;> simp
theorem prs_at (t : Nat) {o : Ob} {q : Nat} (h : q < npO o) : (prsV t o.F.length o.fmt)[q]? = some ((t + wix q : Nat) : Int) := by
  unfold prsV wix
  match q with
  | 0 => simp
  | j + 1 =>
    have hf : o.fmt = 0 := by unfold npO at h; split at h; assumption; omega
    have hj : j < o.F.length := by unfold npO at h; rw [if_pos hf] at h; omega
    rw [if_pos hf, if_neg (by omega), List.getElem?_cons_succ, List.getElem?_map, List.getElem?_range hj]
    simp; omega
/-! ### turned in place -/
theorem mid_step {L K : List Ob} {k n : Nat} {o : Ob} {ys : List Int} (hk : k < L.length) (ho : o.F.length = L[k].F.length) (hK : szs K = szs (L.take k)) (h : Mid L K k o n ys) : Gap L (K ++ [o]) (k + 1) n ys := by
  obtain ⟨junk, rest, rfl, h1, h2⟩ := h
  have hj : junk = [] := List.eq_nil_of_length_eq_zero (by unfold adr at h1; omega)
  subst hj
  refine ⟨[], rest, by rw [encL_app]; simp [encL, List.append_assoc], ?_, h2⟩
  rw [szs_app, adr_succ L k hk, ← h1]; simp [szs]; omega
theorem gap_words {L K : List Ob} {n : Nat} {ys : List Int} (hK : szs K = szs L) (h : Gap L K L.length n ys) : Words K ys ∧ ys.length = n := by
  obtain ⟨junk, rest, rfl, h1, h2⟩ := h
  have hj : junk = [] := List.eq_nil_of_length_eq_zero (by rw [adr_end] at h1; omega)
  subst hj
  exact ⟨⟨rest, by simp [encL, List.append_assoc]⟩, h2⟩
theorem take_map_szs (f : Int → Int) (L : List Ob) (k : Nat) : szs ((L.take k).map (turnO f)) = szs (L.take k) := szs_map_turn f _
theorem take_map_succ (f : Int → Int) {L : List Ob} {k : Nat} (hk : k < L.length) : (L.take (k + 1)).map (turnO f) = (L.take k).map (turnO f) ++ [turnO f L[k]] := by
  rw [List.take_succ_eq_append_getElem hk, List.map_append]; rfl
end Go.Proofs.Ytfinpgkehjbcpaa

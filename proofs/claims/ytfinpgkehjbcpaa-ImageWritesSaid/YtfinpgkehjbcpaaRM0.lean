/- Chapter 02: an object more in the reference's memory. -/
import Derived.Test.YtfinpgkehjbcpaaRD1
import Derived.Test.YtfinpgkehjbcpaaHM0
import Derived.Test.YtfinpgkehjbcpaaHE2
namespace Go.Proofs.Ytfinpgkehjbcpaa
open Go.ChangeShapes Go.WideShapes Go.ChangeAt Go.RowKit Go.Deep Go.Joins Go.Maps
set_option linter.unusedVariables false
set_option linter.unusedSimpArgs false

theorem infoO : (Try.prog.info? 75).map (fun i => (i.zero, i.size, i.bytes)) = some (some (.agg #[.int .i64 0, .int .i64 0, .int .i64 0, .slice none 0 0]), 4, 48) := by kernel_rfl
/-- behind a deed of the reference's: its memory, wherever it lies now -/
def RPost (R : Nat → Prop) (r : Nat) (m : Hp) (w w' : World) : Prop := ∃ R' lv fv, RM w' R' r m lv fv ∧ Turns R w w' ∧ ∀ k, R' k → R k ∨ w.heap.size ≤ k
theorem own_slice {w : World} {base n size : Nat} {e : TypeId} {v : Value} {xs : List Value} (h : w.ownsRow base e size v n xs) : ∃ A c, v = .slice A n c := by
  rcases h.2 with ⟨rfl, rfl⟩ | ⟨g, cap, cur, rfl, _⟩
  · exact ⟨none, 0, rfl⟩
  · exact ⟨_, cap, rfl⟩
theorem RM.push {w w' : World} {R : Nat → Prop} {r : Nat} {m : Hp} {lv lv' v : Value} {fv : Nat → Value} (h : RM w R r m lv fv) {m' : Hp} {o : Ob} (hm : m'.L = m.L ++ [o]) (hg : Good m')
    (hbox : w'.heap[r]? = some (.cells #[.int .i64 (m'.size : Int), .int .i64 (m'.made : Int), lv'] 61 (0, 0)))
    (hown : w'.ownsRow 0 75 4 lv' (m.L.length + 1) (rowsL m.L.length 4 (objF m.L fv) ++ [.int .i64 o.cls, .int .i64 o.fmt, .int .i64 o.hash, v]))
    (hf : w'.ownsRow w.heap.size 3 1 v o.F.length (o.F.map (Value.int .i64)))
    (hb : ∀ k, R k → k ≠ r → lv.ownBlock ≠ some k → w'.heap[k]? = w.heap[k]?) (hlv : lv'.ownBlock = lv.ownBlock ∨ ∃ k, lv'.ownBlock = some k ∧ w.heap.size ≤ k) (hs : w.heap.size ≤ w'.heap.size) :
    RM w' (fun k => R k ∨ (w.heap.size ≤ k ∧ k < w'.heap.size)) r m' lv' (fun i => if i = m.L.length then v else fv i) := by
  obtain ⟨a1, a2⟩ := h.apart1
  have hlen : m'.L.length = m.L.length + 1 := by rw [hm]; simp
  have hold : ∀ i, i < m.L.length → ∀ k, (fv i).ownBlock = some k → w'.heap[k]? = w.heap[k]? := fun i hi k hk => hb k (h.inR.2.2 i hi k hk) (fun e => (a2 i hi).1 (by rw [hk, e])) (fun e => (a2 i hi).2 (by rw [hk]; simp) (by rw [hk, e]))
  refine ⟨hg, hbox, ?_, ?_, ?_, ?_, ?_⟩
  · rw [hlen, rowsL_succ]
    have e1 : rowsL m.L.length 4 (objF m'.L (fun i => if i = m.L.length then v else fv i)) = rowsL m.L.length 4 (objF m.L fv) := by
      apply rowsL_congr
      intro i hi j hj
      unfold objF
      rw [hm, List.getD_eq_getElem?_getD, List.getD_eq_getElem?_getD, List.getElem?_append_left hi]
      simp only [if_neg (show ¬ i = m.L.length by omega)]
    have e2 : (List.range 4).map (objF m'.L (fun i => if i = m.L.length then v else fv i) m.L.length) = [.int .i64 o.cls, .int .i64 o.fmt, .int .i64 o.hash, v] := by
      have : m'.L.getD m.L.length zeroO = o := by rw [hm, List.getD_eq_getElem?_getD, List.getElem?_append_right (Nat.le_refl _)]; simp
      show [objF _ _ _ 0, objF _ _ _ 1, objF _ _ _ 2, objF _ _ _ 3] = _
      unfold objF
      rw [this]
      simp
    rw [e1, e2]
    exact hown
  · intro i hi
    rcases Nat.lt_or_ge i m.L.length with q | q
    · have e : m'.L[i] = m.L[i] := by simp only [hm]; rw [List.getElem_append_left q]
      rw [e, if_neg (by omega)]
      exact ownsRow_same (h.fields i q) hs (hold i q)
    · obtain rfl : i = m.L.length := by omega
      have e : m'.L[m.L.length] = o := by simp only [hm]; simp
      rw [e, if_pos rfl]
      exact ownsRow_mono hf (Nat.zero_le _)
  · intro i j hij hj hne
    rw [hlen] at hj
    rw [if_neg (by omega)] at hne ⊢
    rcases Nat.lt_or_ge j m.L.length with q | q
    · rw [if_neg (by omega)]; exact h.apart i j hij q hne
    · obtain rfl : j = m.L.length := by omega
      rw [if_pos rfl]
      intro e
      obtain ⟨k, hk⟩ := Option.ne_none_iff_exists'.1 hne
      have h1 := h.lt k (h.inR.2.2 i hij k hk)
      rw [hk] at e
      have h2 := (hf.lt k e.symm).1
      omega
  · refine ⟨.inl h.inR.1, fun k hk => ?_, fun i hi k hk => ?_⟩
    · rcases hlv with e | ⟨k', e, hk'⟩
      · rw [e] at hk; exact .inl (h.inR.2.1 k hk)
      · rw [hk] at e; cases e; exact .inr ⟨hk', (hown.lt k hk).2⟩
    · rw [hlen] at hi
      rcases Nat.lt_or_ge i m.L.length with q | q
      · rw [if_neg (by omega)] at hk; exact .inl (h.inR.2.2 i q k hk)
      · obtain rfl : i = m.L.length := by omega
        rw [if_pos rfl] at hk
        exact .inr (hf.lt k hk)
  · rintro k (hk | hk)
    · exact Nat.lt_of_lt_of_le (h.lt k hk) hs
    · exact hk.2
end Go.Proofs.Ytfinpgkehjbcpaa

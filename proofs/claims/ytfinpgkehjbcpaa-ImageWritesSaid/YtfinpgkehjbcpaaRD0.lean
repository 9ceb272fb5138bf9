/- Chapter 02: stores into the reference's memory. -/
import Derived.Test.YtfinpgkehjbcpaaHD0
import Derived.Test.YtfinpgkehjbcpaaRR1
namespace Go.Proofs.Ytfinpgkehjbcpaa
open Go.ChangeShapes Go.WideShapes Go.ChangeAt Go.RowKit Go.Deep Go.Joins Go.Maps
set_option linter.unusedVariables false
set_option linter.unusedSimpArgs false

theorem rowsL_set {n size : Nat} {F : Nat → Nat → Value} {i j : Nat} {v : Value} (hi : i < n) (hj : j < size) : (rowsL n size F).set (i * size + j) v = rowsL n size (fun a b => if a = i ∧ b = j then v else F a b) := by
  apply List.ext_getElem?
  intro idx
  by_cases hx : idx < n * size
  · have ha : idx / size < n := Nat.div_lt_of_lt_mul (by rw [Nat.mul_comm]; exact hx)
    have hb : idx % size < size := Nat.mod_lt _ (by omega)
    have e : idx / size * size + idx % size = idx := Nat.div_add_mod' idx size
    have h1 := rowsL_at (F := F) ha hb
    have h2 := rowsL_at (F := fun a b => if a = i ∧ b = j then v else F a b) ha hb
    rw [e] at h1 h2
    rw [h2]
    by_cases hc : i * size + j = idx
    · have e1 : idx / size = i := by
        rw [← hc, Nat.add_comm, Nat.add_mul_div_right _ _ (by omega), Nat.div_eq_of_lt hj, Nat.zero_add]
      have e2 : idx % size = j := by
        rw [← hc, Nat.add_comm, Nat.add_mul_mod_self_right, Nat.mod_eq_of_lt hj]
      rw [← hc, List.getElem?_set_self (by rw [rowsL_len, hc]; exact hx)]
      rw [hc, e1, e2, if_pos ⟨rfl, rfl⟩]
    · rw [List.getElem?_set_ne hc, h1, if_neg]
      rintro ⟨e1, e2⟩
      rw [e1, e2] at e
      exact hc e
  · rw [List.getElem?_eq_none (by rw [List.length_set, rowsL_len]; omega), List.getElem?_eq_none (by rw [rowsL_len]; omega)]
theorem own_block_of {w : World} {base n size : Nat} {e : TypeId} {v : Value} {xs : List Value} (h : w.ownsRow base e size v n xs) {k : Nat} (hk : v.ownBlock = some k) : ∃ cur, w.heap[k]? = some (.cells cur e (0, 0)) := by
  rcases h.2 with ⟨rfl, _⟩ | ⟨g, cap, cur, rfl, hg, hh, _⟩
  · cases hk
  · cases hk; exact ⟨cur, hh⟩
section
variable {w : World} {R : Nat → Prop} {r : Nat} {m : Hp} {lv : Value} {fv : Nat → Value}
/-- the box, the list and the fields lie apart -/
theorem RM.apart1 (h : RM w R r m lv fv) : lv.ownBlock ≠ some r ∧ ∀ (i : Nat) (hi : i < m.L.length), (fv i).ownBlock ≠ some r ∧ ((fv i).ownBlock ≠ none → (fv i).ownBlock ≠ lv.ownBlock) := by
  refine ⟨fun e => ?_, fun i hi => ⟨fun e => ?_, fun hn e => ?_⟩⟩
  · obtain ⟨cur, hh⟩ := own_block_of h.own e
    rw [h.box] at hh; simp at hh
  · obtain ⟨cur, hh⟩ := own_block_of (h.fields i hi) e
    rw [h.box] at hh; simp at hh
  · obtain ⟨k, hk⟩ := Option.ne_none_iff_exists'.1 hn
    obtain ⟨cur, hh⟩ := own_block_of (h.fields i hi) hk
    obtain ⟨cur2, hh2⟩ := own_block_of h.own (by rw [← e]; exact hk)
    rw [hh] at hh2; simp at hh2
/-- a cell of the list is stored -/
theorem RM.store (h : RM w R r m lv fv) {i k g c : Nat} (hlv : lv = .slice (some ⟨g, 0, none⟩) m.L.length c) (hi : i < m.L.length) (hk : k < 3) {o' : Ob} {x : Int} (ho : ∀ j, j < 4 → (if j = k then Value.int .i64 x else objF m.L fv i j) = (match j with | 0 => .int .i64 o'.cls | 1 => .int .i64 o'.fmt | 2 => .int .i64 o'.hash | _ => fv i)) (hF : o'.F = m.L[i].F) (hg : Good { m with L := m.L.set i o' }) :
    RM (w.setCell ⟨g, i * 4 + k, none⟩ (.int .i64 x)) R r { m with L := m.L.set i o' } lv fv := by
  obtain ⟨a1, a2⟩ := h.apart1
  have hlb : lv.ownBlock = some g := by rw [hlv]; rfl
  have hset : (m.L.set i o').length = m.L.length := List.length_set
  refine ⟨hg, ?_, ?_, ?_, ?_, ?_, ?_⟩
  · rw [Below.heap_setCell _ _ _ _ (fun e => a1 (by rw [hlb]; exact congrArg some e.symm))]; exact h.box
  · have hown := h.own
    rw [hlv] at hown
    have h1 := (World.ownsRow.stored hown (i * 4 + k) (.int .i64 x)).1
    rw [rowsL_set hi (by omega)] at h1
    rw [hlv]
    show World.ownsRow _ 0 75 4 (.slice (some ⟨g, 0, none⟩) m.L.length c) (m.L.set i o').length (rowsL (m.L.set i o').length 4 (objF (m.L.set i o') fv))
    rw [hset]
    rw [rowsL_congr (G := objF (m.L.set i o') fv)] at h1
    · exact h1
    · intro a ha b hb
      by_cases e : a = i
      · subst e
        have := ho b hb
        simp only [true_and]
        rw [this]
        unfold objF
        rw [List.getD_eq_getElem?_getD, List.getElem?_set_self hi]
        rfl
      · rw [if_neg (fun q => e q.1)]
        unfold objF
        rw [List.getD_eq_getElem?_getD, List.getD_eq_getElem?_getD, List.getElem?_set_ne (fun q => e q.symm)]
  · intro j hj
    have hj' : j < m.L.length := by rw [← hset]; exact hj
    have hFj : (m.L.set i o')[j].F = m.L[j].F := by
      rw [List.getElem_set]
      split
      · next e => subst e; exact hF
      · rfl
    rw [hFj]
    have hne := (a2 j hj').2
    refine ownsRow_setCell_other (h.fields j hj') (fun e => ?_) _
    rw [hlb] at hne
    exact hne (by rw [e]; simp) e
  · intro a b hab hb
    exact h.apart a b hab (by rw [← hset]; exact hb)
  · refine ⟨h.inR.1, h.inR.2.1, fun j hj => h.inR.2.2 j (by rw [← hset]; exact hj)⟩
  · intro k hk; have := h.lt k hk; simpa using this
theorem RM.setMade (h : RM w R r m lv fv) (n : Nat) (hn : n ≤ 1099511627776) : RM (w.setCell ⟨r, 1, none⟩ (.int .i64 (n : Int))) R r { m with made := n } lv fv := by
  obtain ⟨a1, a2⟩ := h.apart1
  have g := h.good
  refine ⟨⟨g.lo, g.hi, hn, g.fits, g.fmt, g.len, g.word⟩, ?_, ?_, ?_, h.apart, h.inR, fun k hk => by have := h.lt k hk; simpa using this⟩
  · rw [heap_setCell_same w r 1 _ _ _ h.box]; rfl
  · exact ownsRow_setCell_other h.own a1 _
  · intro i hi; exact ownsRow_setCell_other (h.fields i hi) (a2 i hi).1 _
/-- a field of an object is stored -/
theorem RM.storeF (h : RM w R r m lv fv) {i j g c : Nat} (hi : i < m.L.length) (hj : j < m.L[i].F.length) (hfv : fv i = .slice (some ⟨g, 0, none⟩) m.L[i].F.length c) {x : Int} (hg : Good { m with L := m.L.set i ⟨m.L[i].cls, m.L[i].fmt, m.L[i].hash, m.L[i].F.set j x⟩ }) :
    RM (w.setCell ⟨g, j, none⟩ (.int .i64 x)) R r { m with L := m.L.set i ⟨m.L[i].cls, m.L[i].fmt, m.L[i].hash, m.L[i].F.set j x⟩ } lv fv := by
  obtain ⟨a1, a2⟩ := h.apart1
  have hfb : (fv i).ownBlock = some g := by rw [hfv]; rfl
  have hset : (m.L.set i ⟨m.L[i].cls, m.L[i].fmt, m.L[i].hash, m.L[i].F.set j x⟩).length = m.L.length := List.length_set
  refine ⟨hg, ?_, ?_, ?_, ?_, ?_, ?_⟩
  · rw [Below.heap_setCell _ _ _ _ (fun e => (a2 i hi).1 (by rw [hfb]; exact congrArg some e.symm))]; exact h.box
  · have h1 := ownsRow_setCell_other h.own (a := ⟨g, j, none⟩) (fun e => (a2 i hi).2 (by rw [hfb]; simp) (by rw [hfb, e])) (.int .i64 x)
    show World.ownsRow _ 0 75 4 lv (m.L.set i _).length (rowsL (m.L.set i _).length 4 (objF (m.L.set i _) fv))
    rw [hset]
    rw [rowsL_congr (G := objF (m.L.set i ⟨m.L[i].cls, m.L[i].fmt, m.L[i].hash, m.L[i].F.set j x⟩) fv)] at h1
    · exact h1
    · intro a ha b hb
      by_cases e : a = i
      · subst e
        unfold objF
        rw [List.getD_eq_getElem?_getD, List.getD_eq_getElem?_getD, List.getElem?_set_self hi, List.getElem?_eq_getElem hi]
        rfl
      · unfold objF
        rw [List.getD_eq_getElem?_getD, List.getD_eq_getElem?_getD, List.getElem?_set_ne (fun q => e q.symm)]
  · intro a ha
    have ha' : a < m.L.length := by rw [← hset]; exact ha
    by_cases e : a = i
    · subst e
      have hf := h.fields a hi
      rw [hfv] at hf
      have h1 := (World.ownsRow.stored hf j (.int .i64 x)).1
      have e2 : (m.L.set a ⟨m.L[a].cls, m.L[a].fmt, m.L[a].hash, m.L[a].F.set j x⟩)[a].F = m.L[a].F.set j x := by rw [List.getElem_set_self]
      show World.ownsRow _ 0 3 1 (fv a) ((m.L.set a _)[a].F).length (((m.L.set a _)[a].F).map (Value.int .i64))
      rw [e2, List.length_set, List.map_set, hfv]
      exact h1
    · have e2 : (m.L.set i ⟨m.L[i].cls, m.L[i].fmt, m.L[i].hash, m.L[i].F.set j x⟩)[a].F = m.L[a].F := by rw [List.getElem_set_ne (fun q => e q.symm)]
      show World.ownsRow _ 0 3 1 (fv a) ((m.L.set i _)[a].F).length (((m.L.set i _)[a].F).map (Value.int .i64))
      rw [e2]
      refine ownsRow_setCell_other (h.fields a ha') (fun q => ?_) _
      rcases Nat.lt_or_ge a i with h1 | h1
      · exact h.apart a i h1 hi (by rw [q]; simp) (by rw [q, hfb])
      · exact h.apart i a (by omega) ha' (by rw [hfb]; simp) (by rw [q, hfb])
  · intro a b hab hb
    exact h.apart a b hab (by rw [← hset]; exact hb)
  · refine ⟨h.inR.1, h.inR.2.1, fun a ha => h.inR.2.2 a (by rw [← hset]; exact ha)⟩
  · intro k hk; have := h.lt k hk; simpa using this
end
end Go.Proofs.Ytfinpgkehjbcpaa

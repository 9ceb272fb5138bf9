/- Chapter 02: lists of objects in memory. -/
import Derived.Test.YthjjanjmiinpbaaRM0
namespace Go.Proofs.Ythjjanjmiinpbaa
open Go.ChangeShapes Go.WideShapes Go.ChangeAt Go.RowKit Go.Deep Go.Joins Go.Maps
set_option linter.unusedVariables false
set_option linter.unusedSimpArgs false

/-- the objects L lie in the blocks of R: their row is lv, their fields' rows fv -/
structure LM (w : World) (R : Nat → Prop) (L : List Ob) (lv : Value) (fv : Nat → Value) : Prop where
  own : w.ownsRow 0 71 4 lv L.length (rowsL L.length 4 (objF L fv))
  fields : ∀ (i : Nat) (hi : i < L.length), w.ownsRow 0 3 1 (fv i) L[i].F.length (L[i].F.map (Value.int .i64))
  apart : ∀ i j, i < j → j < L.length → (fv i).ownBlock ≠ none → (fv i).ownBlock ≠ (fv j).ownBlock
  inL : ∀ k, lv.ownBlock = some k → R k
  inF : ∀ i, i < L.length → ∀ k, (fv i).ownBlock = some k → R k
  lt : ∀ k, R k → k < w.heap.size
theorem RM.lm {w : World} {R : Nat → Prop} {r : Nat} {m : Hp} {lv : Value} {fv : Nat → Value} (h : RM w R r m lv fv) : LM w R m.L lv fv := ⟨h.own, h.fields, h.apart, h.inR.2.1, h.inR.2.2, h.lt⟩
section
variable {w w' : World} {R R' : Nat → Prop} {L : List Ob} {lv lv' v : Value} {fv : Nat → Value}
theorem LM.rm (h : LM w R L lv fv) {m : Hp} (hL : m.L = L) (hg : Good m) {r : Nat} (hbox : w.heap[r]? = some (.cells #[.int .i64 (m.size : Int), .int .i64 (m.made : Int), lv] 59 (0, 0))) (hr : R r) : RM w R r m lv fv := by
  subst hL
  exact ⟨hg, hbox, h.own, h.fields, h.apart, ⟨hr, h.inL, h.inF⟩, h.lt⟩
theorem LM.same (h : LM w R L lv fv) (hs : w.heap.size ≤ w'.heap.size) (hb : ∀ k, R k → w'.heap[k]? = w.heap[k]?) : LM w' R L lv fv :=
  ⟨ownsRow_same h.own hs (fun k hk => hb k (h.inL k hk)), fun i hi => ownsRow_same (h.fields i hi) hs (fun k hk => hb k (h.inF i hi k hk)), h.apart, h.inL, h.inF, fun k hk => Nat.lt_of_lt_of_le (h.lt k hk) hs⟩
theorem LM.mono (h : LM w R L lv fv) (hR : ∀ k, R k → R' k) (hl : ∀ k, R' k → k < w.heap.size) : LM w R' L lv fv := ⟨h.own, h.fields, h.apart, fun k hk => hR k (h.inL k hk), fun i hi k hk => hR k (h.inF i hi k hk), hl⟩
theorem LM.ne (h : LM w R L lv fv) : ∀ i, i < L.length → (fv i).ownBlock ≠ none → (fv i).ownBlock ≠ lv.ownBlock := fun i hi hn e => by
  obtain ⟨k, hk⟩ := Option.ne_none_iff_exists'.1 hn
  obtain ⟨cur, hh⟩ := own_block_of (h.fields i hi) hk
  obtain ⟨cur2, hh2⟩ := own_block_of h.own (by rw [← e]; exact hk)
  rw [hh] at hh2; simp at hh2
theorem LM.nil (w : World) (R : Nat → Prop) (fv : Nat → Value) (hl : ∀ k, R k → k < w.heap.size) : LM w R [] (.slice none 0 0) fv :=
  ⟨World.ownsRow_nil _ _ _ _, fun i hi => absurd hi (by simp), fun i j _ hj => absurd hj (by simp), (fun k hk => by cases hk), (fun i hi => absurd hi (by simp)), hl⟩
theorem LM.push2 (h : LM w R L lv fv) {o : Ob} (hown : w'.ownsRow 0 71 4 lv' (L.length + 1) (rowsL L.length 4 (objF L fv) ++ [.int .i64 o.cls, .int .i64 o.fmt, .int .i64 o.hash, v]))
    (hf : w'.ownsRow 0 3 1 v o.F.length (o.F.map (Value.int .i64))) (hv : ∀ i, i < L.length → (fv i).ownBlock ≠ none → (fv i).ownBlock ≠ v.ownBlock)
    (hold : ∀ i, i < L.length → ∀ k, (fv i).ownBlock = some k → w'.heap[k]? = w.heap[k]?) (hR : ∀ k, R k → R' k) (h1 : ∀ k, lv'.ownBlock = some k → R' k) (h2 : ∀ k, v.ownBlock = some k → R' k) (hl : ∀ k, R' k → k < w'.heap.size) (hs : w.heap.size ≤ w'.heap.size) :
    LM w' R' (L ++ [o]) lv' (fun i => if i = L.length then v else fv i) := by
  have hlen : (L ++ [o]).length = L.length + 1 := by simp
  refine ⟨?_, ?_, ?_, h1, ?_, hl⟩
  · rw [hlen, rowsL_succ]
    have e1 : rowsL L.length 4 (objF (L ++ [o]) (fun i => if i = L.length then v else fv i)) = rowsL L.length 4 (objF L fv) := by
      apply rowsL_congr
      intro i hi j hj
      unfold objF
      rw [List.getD_eq_getElem?_getD, List.getD_eq_getElem?_getD, List.getElem?_append_left hi]
      simp only [if_neg (show ¬ i = L.length by omega)]
    have e2 : (List.range 4).map (objF (L ++ [o]) (fun i => if i = L.length then v else fv i) L.length) = [.int .i64 o.cls, .int .i64 o.fmt, .int .i64 o.hash, v] := by
      have : (L ++ [o]).getD L.length zeroO = o := by rw [List.getD_eq_getElem?_getD, List.getElem?_append_right (Nat.le_refl _)]; simp
      show [objF _ _ _ 0, objF _ _ _ 1, objF _ _ _ 2, objF _ _ _ 3] = _
      unfold objF
      rw [this]
      simp
    rw [e1, e2]
    exact hown
  · intro i hi
    rcases Nat.lt_or_ge i L.length with q | q
    · have e : (L ++ [o])[i] = L[i] := List.getElem_append_left q
      rw [e, if_neg (by omega)]
      exact ownsRow_same (h.fields i q) hs (hold i q)
    · obtain rfl : i = L.length := by omega
      have e : (L ++ [o])[L.length] = o := by simp
      rw [e, if_pos rfl]
      exact hf
  · intro i j hij hj hn
    rw [hlen] at hj
    rw [if_neg (by omega)] at hn ⊢
    rcases Nat.lt_or_ge j L.length with q | q
    · rw [if_neg (by omega)]; exact h.apart i j hij q hn
    · obtain rfl : j = L.length := by omega
      rw [if_pos rfl]
      exact hv i hij hn
  · intro i hi k hk
    rw [hlen] at hi
    rcases Nat.lt_or_ge i L.length with q | q
    · rw [if_neg (by omega)] at hk; exact hR k (h.inF i q k hk)
    · obtain rfl : i = L.length := by omega
      rw [if_pos rfl] at hk
      exact h2 k hk
theorem LM.push (h : LM w R L lv fv) {o : Ob} (hown : w'.ownsRow 0 71 4 lv' (L.length + 1) (rowsL L.length 4 (objF L fv) ++ [.int .i64 o.cls, .int .i64 o.fmt, .int .i64 o.hash, v]))
    (hf : w'.ownsRow 0 3 1 v o.F.length (o.F.map (Value.int .i64))) (hv : ∀ i, i < L.length → (fv i).ownBlock ≠ none → (fv i).ownBlock ≠ v.ownBlock)
    (hb : ∀ k, R k → lv.ownBlock ≠ some k → w'.heap[k]? = w.heap[k]?) (hR : ∀ k, R k → R' k) (h1 : ∀ k, lv'.ownBlock = some k → R' k) (h2 : ∀ k, v.ownBlock = some k → R' k) (hl : ∀ k, R' k → k < w'.heap.size) (hs : w.heap.size ≤ w'.heap.size) :
    LM w' R' (L ++ [o]) lv' (fun i => if i = L.length then v else fv i) :=
  h.push2 hown hf hv (fun i hi k hk => hb k (h.inF i hi k hk) (fun e => h.ne i hi (by rw [hk]; simp) (by rw [hk, e]))) hR h1 h2 hl hs
/-- an object of the list is another one, its fields lie elsewhere -/
theorem LM.put (h : LM w R L lv fv) {i g c : Nat} (hi : i < L.length) (hlv : lv = .slice (some ⟨g, 0, none⟩) L.length c) {o : Ob} (hf : w.ownsRow 0 3 1 v o.F.length (o.F.map (Value.int .i64))) (hvg : v.ownBlock ≠ some g) (hv : ∀ j, j < L.length → (fv j).ownBlock ≠ none → (fv j).ownBlock ≠ v.ownBlock)
    (hR : ∀ k, R k → R' k) (h2 : ∀ k, v.ownBlock = some k → R' k) (hl : ∀ k, R' k → k < w.heap.size) :
    LM ((((w.setCell ⟨g, i * 4, none⟩ (.int .i64 o.cls)).setCell ⟨g, i * 4 + 1, none⟩ (.int .i64 o.fmt)).setCell ⟨g, i * 4 + 2, none⟩ (.int .i64 o.hash)).setCell ⟨g, i * 4 + 3, none⟩ v) R' (L.set i o) lv (fun j => if j = i then v else fv j) := by
  have hne := h.ne
  have hlb : lv.ownBlock = some g := by rw [hlv]; rfl
  have hset : (L.set i o).length = L.length := List.length_set
  have other : ∀ (base size n : Nat) (e : TypeId) (u : Value) (xs : List Value), w.ownsRow base e size u n xs → u.ownBlock ≠ some g → ((((w.setCell ⟨g, i * 4, none⟩ (.int .i64 o.cls)).setCell ⟨g, i * 4 + 1, none⟩ (.int .i64 o.fmt)).setCell ⟨g, i * 4 + 2, none⟩ (.int .i64 o.hash)).setCell ⟨g, i * 4 + 3, none⟩ v).ownsRow base e size u n xs := fun base size n e u xs hu hne => ownsRow_setCell_other (ownsRow_setCell_other (ownsRow_setCell_other (ownsRow_setCell_other hu hne _) hne _) hne _) hne _
  refine ⟨?_, ?_, ?_, fun k hk => hR k (h.inL k hk), ?_, fun k hk => by have := hl k hk; simpa using this⟩
  · have hown := h.own
    rw [hlv] at hown
    have q0 := (World.ownsRow.stored hown (i * 4 + 0) (.int .i64 o.cls)).1
    rw [rowsL_set hi (by omega)] at q0
    have q1 := (World.ownsRow.stored q0 (i * 4 + 1) (.int .i64 o.fmt)).1
    rw [rowsL_set hi (by omega)] at q1
    have q2 := (World.ownsRow.stored q1 (i * 4 + 2) (.int .i64 o.hash)).1
    rw [rowsL_set hi (by omega)] at q2
    have q3 := (World.ownsRow.stored q2 (i * 4 + 3) v).1
    rw [rowsL_set hi (by omega)] at q3
    rw [hlv]
    show World.ownsRow _ 0 71 4 (.slice (some ⟨g, 0, none⟩) L.length c) (L.set i o).length (rowsL (L.set i o).length 4 (objF (L.set i o) _))
    rw [hset]
    rw [rowsL_congr (G := objF (L.set i o) (fun j => if j = i then v else fv j))] at q3
    · exact q3
    · intro a ha b hb
      by_cases e : a = i
      · subst e
        have ho : (L.set a o)[a]?.getD zeroO = o := by rw [List.getElem?_set_self hi]; rfl
        match b, hb with
        | 0, _ => simp [objF, ho]
        | 1, _ => simp [objF, ho]
        | 2, _ => simp [objF, ho]
        | 3, _ => simp [objF]
      · have ho : (L.set i o).getD a zeroO = L.getD a zeroO := by rw [List.getD_eq_getElem?_getD, List.getD_eq_getElem?_getD, List.getElem?_set_ne (fun q => e q.symm)]
        simp only [e, false_and, if_false]
        match b, hb with
        | 0, _ => simp only [objF, ho]
        | 1, _ => simp only [objF, ho]
        | 2, _ => simp only [objF, ho]
        | 3, _ => simp only [objF, if_neg e]
  · intro j hj
    have hj' : j < L.length := by rw [← hset]; exact hj
    by_cases e : j = i
    · subst e
      have ho : (L.set j o)[j] = o := by rw [List.getElem_set_self]
      rw [ho, if_pos rfl]
      exact other _ _ _ _ _ _ hf hvg
    · have ho : (L.set i o)[j] = L[j] := by rw [List.getElem_set_ne (fun q => e q.symm)]
      rw [ho, if_neg e]
      refine other _ _ _ _ _ _ (h.fields j hj') (fun q => hne j hj' (by rw [q]; simp) (by rw [q, hlb]))
  · intro a b hab hb hn
    rw [hset] at hb
    by_cases ea : a = i
    · rw [if_pos ea] at hn ⊢
      rw [if_neg (by omega)]
      intro q
      exact hv b hb (by rw [← q]; exact hn) q.symm
    · rw [if_neg ea] at hn ⊢
      by_cases eb : b = i
      · rw [if_pos eb]; exact hv a (by omega) hn
      · rw [if_neg eb]; exact h.apart a b hab hb hn
  · intro j hj k hk
    rw [hset] at hj
    by_cases e : j = i
    · rw [if_pos e] at hk; exact h2 k hk
    · rw [if_neg e] at hk; exact hR k (h.inF j hj k hk)
end
end Go.Proofs.Ythjjanjmiinpbaa

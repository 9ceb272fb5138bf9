/- Chapter 02: words that are turned: plain words, frames. -/
import Derived.Test.YthjjanjmiinpbaaHE2
namespace Go.Proofs.Ythjjanjmiinpbaa
open Go.ChangeShapes Go.WideShapes Go.ChangeAt Go.RowKit Go.Deep Go.Joins Go.Maps
set_option linter.unusedVariables false
set_option linter.unusedSimpArgs false

theorem Turns.cell {T : Nat → Prop} {w w' : World} (h : Turns T w w') {b o : Nat} {v : Value} (hc : w.cell? ⟨b, o, none⟩ = some v) (hT : ¬ T b) : w'.cell? ⟨b, o, none⟩ = some v := by
  have := h.block b (cell_lt hc) hT
  unfold World.cell? at hc ⊢
  rw [this]; exact hc
theorem Turns.frozen {T : Nat → Prop} {w w' : World} (h : Turns T w w') {b o : Nat} {v : Value} (hc : w.cell? ⟨b, o, none⟩ = some v) (hT : ¬ T b) (hf : w.frozen? ⟨b, o, none⟩ = false) : w'.frozen? ⟨b, o, none⟩ = false := by
  have := h.block b (cell_lt hc) hT
  unfold World.frozen? at hf ⊢
  rw [this]; exact hf
theorem encL_congr_one {L K : List Ob} {k n : Nat} {o o' : Ob} {ys : List Int} (e : encO o = encO o') (h : Mid L K k o n ys) : Mid L K k o' n ys := by
  obtain ⟨junk, rest, h0, h1, h2⟩ := h
  exact ⟨junk, rest, by rw [← e]; exact h0, h1, h2⟩
theorem part_same (g : Int → Int) {o : Ob} {q : Nat} (h : q < npO o) (hg : g (wordO o q) = wordO o q) : encO (partO g o q) = encO (partO g o (q + 1)) := by
  rw [part_set g h, hg]
  have hw := part_word g h
  have hl : wix q < (encO (partO g o q)).length := by rw [encO_len, partO_len]; exact wix_lt h
  rw [List.getD_eq_getElem?_getD, List.getElem?_eq_getElem hl] at hw
  rw [← hw]
  simp
def gT (f : Int → Int) (x : Int) : Int := if f x = 0 then x else if isPointerV x then f x else x
theorem gT_zero {f : Int → Int} {x : Int} (h : f x = 0) : gT f x = x := if_pos h
theorem gT_no {f : Int → Int} {x : Int} (h : ¬ f x = 0) (hp : isPointerV x = false) : gT f x = x := by unfold gT; rw [if_neg h, hp]; rfl
theorem gT_yes {f : Int → Int} {x : Int} (h : ¬ f x = 0) (hp : isPointerV x = true) : gT f x = f x := by unfold gT; rw [if_neg h, hp]; rfl
theorem Good.turned {m : Hp} (h : Good m) {g : Int → Int} (hg : ∀ x, InI x → InI (g x)) : Good { m with L := m.L.map (turnO g) } := by
  refine ⟨h.lo, h.hi, h.made, by show 3 + szs (m.L.map (turnO g)) ≤ m.size; rw [szs_map_turn]; exact h.fits, fun o ho => ?_, fun o ho => ?_, fun o ho => ?_⟩ <;> obtain ⟨o', ho', rfl⟩ := List.mem_map.1 ho
  · exact h.fmt o' ho'
  · rw [turnO_len]; exact h.len o' ho'
  · have hw := h.word o' ho'
    refine ⟨hg _ hw.1, hw.2.1, fun x hx => ?_⟩
    unfold turnO at hx
    dsimp only at hx
    split at hx
    · obtain ⟨y, hy, rfl⟩ := List.mem_map.1 hx
      exact hg _ (hw.2.2 y hy)
    · exact hw.2.2 x hx
theorem turned_lens (g : Int → Int) (L : List Ob) : (L.map (turnO g)).map (fun o => o.F.length) = L.map (fun o => o.F.length) := by
  rw [List.map_map]; exact List.map_congr_left (fun o _ => turnO_len g o)
theorem PM.turned {w w' : World} {s bw bm : Nat} {m : Hp} (h : PM w s bw bm m) {g : Int → Int} (hg : ∀ x, InI x → InI (g x)) {ys : List Int} (hrow : w'.heap[bw]? = some (.cells ((ys).map (Value.int .i64)).toArray 3 (0, 0))) (hgap : Gap m.L (m.L.map (turnO g)) m.L.length m.size ys) (hbox : w'.heap[s]? = w.heap[s]?) (hmap : w'.heap[bm]? = w.heap[bm]?) :
    PM w' s bw bm { m with L := m.L.map (turnO g) } := by
  obtain ⟨n, f, m1, m2, m3⟩ := h.map
  obtain ⟨g1, g2⟩ := gap_words (szs_map_turn g m.L) hgap
  have hla := turned_lens g m.L
  refine ⟨h.good.turned hg, ?_, ⟨ys, g2, g1, hrow⟩, n, f, by simpa using m1, m2.same hmap, fun a ha => ?_⟩
  · rw [hbox, h.box]
    show some (Obj.cells #[_, .int .i64 (adr m.L m.L.length : Int), _, _] _ _) = some (Obj.cells #[_, .int .i64 (adr (m.L.map (turnO g)) (m.L.map (turnO g)).length : Int), _, _] _ _)
    rw [adr_congr hla, List.length_map]
  · rw [m3 a ha]
    show (∃ j, j < m.L.length ∧ (adr m.L j : Int) = a) ↔ ∃ j, j < (m.L.map (turnO g)).length ∧ (adr (m.L.map (turnO g)) j : Int) = a
    rw [List.length_map]
    simp only [adr_congr hla]
theorem PM.gap {w : World} {s bw bm : Nat} {m : Hp} (h : PM w s bw bm m) : ∃ ys, w.heap[bw]? = some (.cells ((ys).map (Value.int .i64)).toArray 3 (0, 0)) ∧ Gap m.L [] 0 m.size ys := by
  obtain ⟨ys, y1, y2, y3⟩ := h.row
  exact ⟨ys, y3, by rw [← y1]; exact gap_start y2⟩
theorem words_InI {m : Hp} (h : Good m) {o : Ob} (ho : o ∈ m.L) : ∀ x, x ∈ wordsO o → InI x := by
  intro x hx
  have hw := h.word o ho
  unfold wordsO at hx
  rcases List.mem_cons.1 hx with rfl | hx
  · exact hw.1
  · split at hx
    · exact hw.2.2 x hx
    · cases hx
/-- the words' row, on the way through the objects -/
def GapP (bw : Nat) (T : Nat → Prop) (L : List Ob) (g : Int → Int) (n : Nat) (w : World) (k : Nat) (w' : World) : Prop := ∃ ys, w'.heap[bw]? = some (.cells ((ys).map (Value.int .i64)).toArray 3 (0, 0)) ∧ Gap L ((L.take k).map (turnO g)) k n ys ∧ Turns T w w'
end Go.Proofs.Ythjjanjmiinpbaa

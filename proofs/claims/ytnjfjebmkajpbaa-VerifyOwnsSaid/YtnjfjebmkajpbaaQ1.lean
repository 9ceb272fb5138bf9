/- Words for the reference's depths. -/
import Derived.Test.YtnjfjebmkajpbaaD2
namespace Go.Proofs.Ytnjfjebmkajpbaa
open Go.ChangeShapes Go.WideShapes Go.ChangeAt Go.RowKit
set_option linter.unusedVariables false
set_option linter.unusedSimpArgs false

structure Snd (n : Nat) (C : Nat → Ins) (ys : List Int) : Prop where
  len : ys.length = n
  sound : SoundD n C (gF ys)
section
variable {n : Nat} {C : Nat → Ins} {ys : List Int}
theorem negs_le (ys : List Int) : negs ys ≤ ys.length := List.countP_le_length
theorem Snd.work (h : Snd n C ys) : Work n C ys [] (fun _ => True) := ⟨h.len, h.sound, by simp, fun _ _ _ => .inr (.inl trivial), by have := negs_le ys; have := h.len; simp; omega⟩
def WrongD (n : Nat) (C : Nat → Ins) (ys : List Int) (p q : Nat) (o : Int) : Prop := n ≤ q ∨ ownV n C q ≠ ownV n C p ∨ (0 ≤ ys.getD q 0 ∧ ys.getD q 0 ≠ o)
theorem ref_bad (hS : Snd n C ys) (hm : AllMay n C) {p q : Nat} (hp : p < n) (h0 : 0 ≤ gF ys p) (hc : chkD n C p (gF ys p) = true) (hs : (q : Int) ∈ succD C p) (hw : WrongD n C ys p q (aftD C p (gF ys p))) : BadD n C := by
  rcases reach_step hS.work hm hp h0 hc hs true with ⟨hb, _⟩ | ⟨ys', wt', h, _⟩
  · exact hb
  · unfold WrongD at hw
    unfold reachV at h
    rw [if_pos hw] at h
    simp at h
theorem ref_set (hS : Snd n C ys) (hm : AllMay n C) {p q : Nat} (hp : p < n) (h0 : 0 ≤ gF ys p) (hc : chkD n C p (gF ys p) = true) (hs : (q : Int) ∈ succD C p) (hw : ¬ WrongD n C ys p q (aftD C p (gF ys p))) (hneg : ys.getD q 0 < 0) :
    Snd n C (ys.set q (aftD C p (gF ys p))) ∧ EdgeOK n C (gF (ys.set q (aftD C p (gF ys p)))) p q ∧ gF (ys.set q (aftD C p (gF ys p))) p = gF ys p ∧ negs (ys.set q (aftD C p (gF ys p))) < negs ys ∧
      ∀ r, EdgeOK n C (gF ys) p r → EdgeOK n C (gF (ys.set q (aftD C p (gF ys p)))) p r := by
  unfold WrongD at hw
  rcases reach_step hS.work hm hp h0 hc hs true with ⟨_, h⟩ | ⟨ys', wt', h, h1, h2, h3, h4, h5⟩
  · unfold reachV at h
    rw [if_neg hw, if_pos hneg] at h
    simp at h
  · unfold reachV at h
    rw [if_neg hw, if_pos hneg] at h
    simp only [Prod.mk.injEq, List.nil_append, and_true] at h
    obtain ⟨e1, e2⟩ := h
    rw [e1]
    refine ⟨⟨h1.len, h1.sound⟩, h2, h3, ?_, h5⟩
    rw [← e2] at h4
    simp only [List.length_cons, List.length_nil] at h4
    omega
theorem ref_stay (hS : Snd n C ys) (hm : AllMay n C) {p q : Nat} (hp : p < n) (h0 : 0 ≤ gF ys p) (hc : chkD n C p (gF ys p) = true) (hs : (q : Int) ∈ succD C p) (hw : ¬ WrongD n C ys p q (aftD C p (gF ys p))) (hneg : ¬ ys.getD q 0 < 0) : EdgeOK n C (gF ys) p q := by
  unfold WrongD at hw
  rcases reach_step hS.work hm hp h0 hc hs true with ⟨_, h⟩ | ⟨ys', wt', h, h1, h2, h3, h4, h5⟩
  · unfold reachV at h
    rw [if_neg hw, if_neg hneg] at h
    simp at h
  · unfold reachV at h
    rw [if_neg hw, if_neg hneg] at h
    simp only [Prod.mk.injEq, and_true] at h
    rw [h.1]; exact h2
theorem snd_bad (hS : Snd n C ys) {p : Nat} (hp : p < n) (h0 : 0 ≤ gF ys p) (hc : chkD n C p (gF ys p) = false) : BadD n C := .inl ⟨p, _, hS.sound.1 p hp h0, .inl hc⟩
theorem start_snd (n : Nat) (C : Nat → Ins) : Snd n C ((List.range n).map (startF C)) := by
  have hl : ((List.range n).map (startF C)).length = n := by simp
  have h := work_start (C := C) hl (fun j hj => by rw [List.getD_eq_getElem?_getD, List.getElem?_map, List.getElem?_range hj]; rfl)
  exact ⟨h.len, h.sound⟩
def nextA (C : Nat → Ins) (p : Nat) : List Int := if (C p).op = 16 ∨ (C p).op = 19 ∨ (C p).op = 20 then [] else [(p : Int) + 1]
def nextB (C : Nat → Ins) (p : Nat) : List Int := if 0 ≤ targetV (C p) then [targetV (C p)] else []
theorem target_pos {i : Ins} (h : mayB i = true) : (0 ≤ targetV i ↔ leadsB i.op = true) ∧ -1 ≤ targetV i ∧ targetV i ≤ 100000 := by
  have := may_bounds h
  unfold targetV
  cases leadsB i.op <;> simp <;> omega
theorem succ_next {p : Nat} (h : mayB (C p) = true) : succD C p = nextA C p ++ nextB C p := by
  unfold succD nextA nextB
  have h1 := (target_pos h).1
  by_cases h2 : 0 ≤ targetV (C p)
  · rw [if_pos h2, if_pos (h1.1 h2)]
  · rw [if_neg h2, if_neg (fun e => h2 (h1.2 e))]
theorem next_nat {p : Nat} (h : mayB (C p) = true) {j : Nat} (hj : j < (nextA C p ++ nextB C p).length) : ∃ q : Nat, (nextA C p ++ nextB C p)[j] = (q : Int) ∧ (q ≤ p + 1 ∨ q ≤ 100000) := by
  have hm : (nextA C p ++ nextB C p)[j] ∈ nextA C p ++ nextB C p := List.getElem_mem _
  obtain ⟨x, hx⟩ : ∃ x, (nextA C p ++ nextB C p)[j] = x := ⟨_, rfl⟩
  rw [hx] at hm ⊢
  clear hx
  have ht := target_pos h
  have : 0 ≤ x ∧ (x ≤ p + 1 ∨ x ≤ 100000) := by
    rcases List.mem_append.1 hm with h1 | h1
    · unfold nextA at h1
      split at h1
      · cases h1
      · rw [List.mem_singleton.1 h1]; omega
    · unfold nextB at h1
      split at h1
      · rw [List.mem_singleton.1 h1]; omega
      · cases h1
  exact ⟨x.toNat, by omega, by omega⟩
end
theorem chk_left {d nd a : Int} {b : Bool} (h : (decide (d < nd) || decide (24 < a)) = true) : (decide (nd ≤ d) && decide (a ≤ 24) && b) = false := by
  simp only [Bool.or_eq_true, decide_eq_true_eq] at h
  rcases h with h | h
  · rw [decide_eq_false (show ¬ nd ≤ d by omega)]; rfl
  · rw [decide_eq_false (show ¬ a ≤ 24 by omega)]; simp
theorem chk_left_no {d nd a : Int} (h : (decide (d < nd) || decide (24 < a)) = false) : nd ≤ d ∧ a ≤ 24 := by
  simp only [Bool.or_eq_false_iff, decide_eq_false_iff_not] at h
  omega
theorem chk_right {d nd a o op : Int} (h : ((op == 19) && ((d != 1) || decide (o < 0))) = true) : (decide (nd ≤ d) && decide (a ≤ 24) && (if op = 19 then d == 1 && decide (0 ≤ o) else true)) = false := by
  simp only [Bool.and_eq_true, Bool.or_eq_true, decide_eq_true_eq, beq_iff_eq, bne_iff_ne] at h
  obtain ⟨h1, h2⟩ := h
  rw [if_pos h1]
  rcases h2 with h2 | h2
  · rw [show (d == 1) = false by simpa using h2]; simp
  · rw [decide_eq_false (show ¬ 0 ≤ o by omega)]; simp
theorem chk_yes {d nd a o op : Int} (h1 : nd ≤ d) (h2 : a ≤ 24) (h : ((op == 19) && ((d != 1) || decide (o < 0))) = false) : (decide (nd ≤ d) && decide (a ≤ 24) && (if op = 19 then d == 1 && decide (0 ≤ o) else true)) = true := by
  rw [decide_eq_true h1, decide_eq_true h2]
  by_cases h3 : op = 19
  · rw [if_pos h3]
    subst h3
    simp only [beq_self_eq_true, Bool.true_and, Bool.or_eq_false_iff, decide_eq_false_iff_not] at h
    rw [show (d == 1) = true by simpa using h.1, decide_eq_true (show 0 ≤ o by omega)]; rfl
  · rw [if_neg h3]; rfl
theorem next_if (op : Int) (x : Int) : (if op = 16 ∨ op = 19 ∨ op = 20 then [] else [x]) = if ((op != 16) && ((op != 19) && (op != 20))) then [x] else [] := by
  by_cases h1 : op = 16
  · subst h1; rfl
  by_cases h2 : op = 19
  · subst h2; rfl
  by_cases h3 : op = 20
  · subst h3; rfl
  rw [if_neg (by omega), if_pos (by simp [h1, h2, h3])]
theorem next_len2 (C : Nat → Ins) (p : Nat) : (nextA C p ++ nextB C p).length ≤ 2 := by rw [List.length_append]; unfold nextA nextB; split <;> split <;> simp
theorem next_len (C : Nat → Ins) (p : Nat) : (nextA C p).length ≤ 1 := by unfold nextA; split <;> simp
theorem own_form {w : World} {base n : Nat} {e : TypeId} {size : Nat} {v : Value} {xs : List Value} (h : w.ownsRow base e size v n xs) : ∃ A c, v = .slice A n c := by
  rcases h.2 with ⟨rfl, h0⟩ | ⟨g, cap, cur, rfl, _⟩
  · subst h0; exact ⟨_, _, rfl⟩
  · exact ⟨_, _, rfl⟩
theorem own_form_pos {w : World} {base n : Nat} {e : TypeId} {size : Nat} {v : Value} {xs : List Value} (h : w.ownsRow base e size v n xs) (hn : 0 < n) : ∃ g c, v = .slice (some ⟨g, 0, none⟩) n c ∧ base ≤ g ∧ g < w.heap.size := by
  rcases h.2 with ⟨rfl, h0⟩ | ⟨g, cap, cur, rfl, hg, _⟩
  · omega
  · exact ⟨g, cap, rfl, hg, (h.lt g rfl).2⟩
end Go.Proofs.Ytnjfjebmkajpbaa

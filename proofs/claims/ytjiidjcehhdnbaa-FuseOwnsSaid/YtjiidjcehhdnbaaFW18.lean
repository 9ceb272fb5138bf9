/- Chapter 18: the reference's stack. -/
import Derived.Test.YtjiidjcehhdnbaaFW17
namespace Go.Proofs.Ytjiidjcehhdnbaa
open Go.ChangeShapes Go.WideShapes Go.ChangeAt Go.RowKit Go.Deep Go.Joins
set_option linter.unusedVariables false
set_option linter.unusedSimpArgs false
theorem own_take {w : World} {base : Nat} {e : TypeId} {size g n cap m : Nat} {xs : List Value} (h : w.ownsRow base e size (.slice (some ⟨g, 0, none⟩) n cap) n xs) (hm : m ≤ n) :
    w.ownsRow base e size (.slice (some ⟨g, 0, none⟩) m cap) m (xs.take (m * size)) := by
  obtain ⟨hl, h⟩ := h
  rcases h with ⟨h, _⟩ | ⟨g', cap', cur, hv, hg, hh, hn, hc, hs, ht⟩
  · cases h
  · cases hv
    have hms : m * size ≤ n * size := Nat.mul_le_mul_right _ hm
    refine ⟨by rw [List.length_take, hl]; omega, .inr ⟨g, cap, cur, rfl, hg, hh, by omega, hc, hs, ?_⟩⟩
    rw [← ht, List.take_take, Nat.min_eq_left hms]
theorem own_row1 {w : World} {base : Nat} {v : Value} {l : List Int} (h : w.ownsRow base 3 1 v l.length (l.map (.int .i64))) :
    ∃ A cap, v = .slice A l.length cap ∧ Row w A l.length 1 (fun i _ => .int .i64 (l.getD i 0)) ∧ l.length ≤ cap ∧ cap ≤ maxLen := by
  rcases h.2 with ⟨rfl, h0⟩ | ⟨g, cap, cur, rfl, hg, hh, hn, hm, _⟩
  · exact ⟨none, 0, by rw [h0], fun hp => absurd hp (by omega), by omega, by unfold maxLen; omega⟩
  · refine ⟨_, _, rfl, fun _ => ⟨g, 0, rfl, (h.lt g rfl).2, fun i hi j hj => ?_⟩, hn, hm⟩
    obtain rfl : j = 0 := by omega
    rw [show 0 + i * 1 + 0 = i by omega, h.cellAt i (by omega), List.getElem?_map, List.getElem?_eq_getElem hi]
    simp [List.getD, hi]
theorem own_setCell {w : World} {base : Nat} {e : TypeId} {size n : Nat} {v : Value} {xs : List Value} (h : w.ownsRow base e size v n xs) {b o : Nat} (u : Value) (hb : b < base) :
    (w.setCell ⟨b, o, none⟩ u).ownsRow base e size v n xs := by
  refine ⟨h.1, ?_⟩
  rcases h.2 with h | ⟨g, cap, cur, hv, hg, hh, rest⟩
  · exact .inl h
  · exact .inr ⟨g, cap, cur, hv, hg, (heap_setCell_other w ⟨b, o, none⟩ g u (fun e => by simp at e; omega)).trans hh, rest⟩
theorem own_one_shape {X : World} {base : Nat} {v : Value} {a : Value} (h : X.ownsRow base 3 1 v 1 [a]) : ∃ g cap, v = .slice (some ⟨g, 0, none⟩) 1 cap ∧ base ≤ g ∧ 1 ≤ cap ∧ cap ≤ maxLen := by
  rcases h.2 with ⟨_, h0⟩ | ⟨g, cap, cur, rfl, hg, hh, hn, hm, _⟩
  · cases h0
  · exact ⟨g, cap, rfl, hg, hn, hm⟩
theorem own_two_shape {X : World} {base : Nat} {v : Value} {a b : Value} (h : X.ownsRow base 3 1 v 2 [a, b]) : ∃ g cap, v = .slice (some ⟨g, 0, none⟩) 2 cap ∧ base ≤ g ∧ 2 ≤ cap ∧ cap ≤ maxLen := by
  rcases h.2 with ⟨_, h0⟩ | ⟨g, cap, cur, rfl, hg, hh, hn, hm, _⟩
  · cases h0
  · exact ⟨g, cap, rfl, hg, hn, hm⟩
end Go.Proofs.Ytjiidjcehhdnbaa

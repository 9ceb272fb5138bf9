/- Chapter 09: bytes and instructions, there and back. -/
import Derived.Test.YtclndbiljhbbkaaDoorC10
namespace Go.Proofs.YtclndbiljhbbkaaDoor
open Go.ChangeShapes Go.WideShapes Go.ChangeAt Go.RowKit Go.Deep Go.Joins
set_option linter.unusedVariables false
set_option linter.unusedSimpArgs false
theorem bints_bytes {w : World} {base : Nat} {v : Value} {zs : List Int} (h : BInts w base v zs) : ∃ A c, v = .slice A zs.length c ∧ zs.length ≤ c ∧ c ≤ 9223372036854775807 ∧ IsBytes w A zs.length (fun i => zs.getD i 0) := by
  have h2 := h
  unfold BInts at h2
  rcases h2.2 with ⟨rfl, h0⟩ | ⟨g, cap, cur, rfl, hg, hh, h1, h3, _⟩
  · rw [h0]
    exact ⟨none, 0, rfl, Nat.le_refl _, by omega, fun h => absurd h (by omega)⟩
  · refine ⟨_, cap, rfl, h1, h3, fun hn => ⟨g, 0, rfl, (h2.lt g rfl).2, fun i hi j hj => ?_⟩⟩
    obtain rfl : j = 0 := by omega
    have := World.ownsRow.cellAt h2 i (by simpa using hi)
    rw [Nat.zero_add, Nat.mul_one, Nat.add_zero, this, List.getElem?_map, List.getElem?_eq_getElem hi]
    show some (Value.int .u8 zs[i]) = some (Value.int .u8 (zs.getD i 0))
    rw [List.getD_eq_getElem?_getD, List.getElem?_eq_getElem hi]
    rfl
theorem bytes_at (C : Nat → Ins) : ∀ n k, k < n → (bytesV C n).getD (3 * k) 0 = (C k).op ∧ (bytesV C n).getD (3 * k + 1) 0 = (C k).a ∧ (bytesV C n).getD (3 * k + 2) 0 = (C k).b
  | n + 1, k, h => by
    have hl := bytes_len C n
    rw [bytes_succ]
    rcases Nat.lt_or_ge k n with h1 | h1
    · obtain ⟨a, b, c⟩ := bytes_at C n k h1
      refine ⟨?_, ?_, ?_⟩ <;> rw [List.getD_eq_getElem?_getD, List.getElem?_append_left (by omega), ← List.getD_eq_getElem?_getD]
      · exact a
      · exact b
      · exact c
    · obtain rfl : k = n := by omega
      refine ⟨?_, ?_, ?_⟩ <;> rw [List.getD_eq_getElem?_getD, List.getElem?_append_right (by omega), hl]
      · rw [Nat.sub_self]; rfl
      · rw [show 3 * k + 1 - 3 * k = 1 by omega]; rfl
      · rw [show 3 * k + 2 - 3 * k = 2 by omega]; rfl
theorem insB_bytes (C : Nat → Ins) {n k : Nat} (h : k < n) : insB (fun i => (bytesV C n).getD i 0) k = C k := by
  obtain ⟨a, b, c⟩ := bytes_at C n k h
  unfold insB
  show (⟨(bytesV C n).getD (3 * k) 0, (bytesV C n).getD (3 * k + 1) 0, (bytesV C n).getD (3 * k + 2) 0⟩ : Ins) = C k
  rw [a, b, c]
theorem mayTo_congr {C D : Nat → Ins} {n : Nat} (h : ∀ k, k < n → C k = D k) : mayTo C n = mayTo D n := by
  unfold mayTo
  apply Bool.eq_iff_iff.2
  simp only [List.all_eq_true, List.mem_range]
  exact ⟨fun q i hi => by rw [← h i hi]; exact q i hi, fun q i hi => by rw [h i hi]; exact q i hi⟩
theorem read_back (C : Nat → Ins) {n : Nat} (hn : n ≤ 400) (hm : mayTo C n = true) : readV (fun i => (bytesV C n).getD i 0) (bytesV C n).length = (n, 0) := by
  have hl := bytes_len C n
  unfold readV
  rw [hl, Nat.mul_div_cancel_left n (by decide)]
  exact if_pos ⟨Nat.mul_mod_right 3 n, by omega, by rw [mayTo_congr (fun k hk => insB_bytes C hk)]; exact hm⟩
theorem code_congr {w : World} {A : Option Addr} {n : Nat} {C D : Nat → Ins} (h : IsCode w A n C) (e : ∀ k, k < n → C k = D k) : IsCode w A n D := row_change h (fun i hi j hj => by rw [e i hi])
theorem bytes_bound {C : Nat → Ins} {n : Nat} (h : mayTo C n = true) : ∀ i, i < (bytesV C n).length → 0 ≤ (bytesV C n).getD i 0 ∧ (bytesV C n).getD i 0 ≤ 255 := by
  intro i hi
  rw [bytes_len] at hi
  have hk : i / 3 < n := by omega
  obtain ⟨a, b, c⟩ := bytes_at C n (i / 3) hk
  have hm : mayB (C (i / 3)) = true := List.all_eq_true.1 h _ (List.mem_range.2 hk)
  obtain ⟨m1, m2, m3, m4, m5, m6⟩ := may_bounds hm
  rcases (show i = 3 * (i / 3) ∨ i = 3 * (i / 3) + 1 ∨ i = 3 * (i / 3) + 2 by omega) with e | e | e
  · rw [e, a]; omega
  · rw [e, b]; omega
  · rw [e, c]; omega
theorem bytes_of (F : Nat → Int) : ∀ k, bytesV (insB F) k = (List.range (3 * k)).map F
  | 0 => rfl
  | k + 1 => by
    rw [bytes_succ, bytes_of F k, show 3 * (k + 1) = 3 * k + 1 + 1 + 1 by omega, List.range_succ, List.range_succ, List.range_succ]
    simp [insB]
theorem raw_conv {w : World} {A : Option Addr} {n c : Nat} {F : Nat → Int} (h : IsBytes w A n F) : (Go.convert 24 9 (.slice A n c)).run Tryd.prog w = .ok (.string (strOfNums ((List.range n).map F))) w := by
  by_cases h0 : 0 < n
  · obtain ⟨b, off, rfl, hlt, hc⟩ := h.at_ (Below.refl _ _) h0
    refine run_convert_bytes_arg w 24 5 Tryd.underlying24 Tryd.underlying5 b off n c _ (by simp) (fun i hi => ?_) 9 Tryd.underlying9
    rw [hc i hi, List.getD_eq_getElem?_getD, List.getElem?_map, List.getElem?_range hi]
    rfl
  · obtain rfl : n = 0 := by omega
    cases A with
    | none => exact run_convert_bytes_nil w 24 5 Tryd.underlying24 Tryd.underlying5 0 c 9 Tryd.underlying9
    | some a =>
      have hl := run_loadCells_list (P := Tryd.prog) w a [] (fun j v hj => by simp at hj)
      rw [run_convert_bytes_string (P := Tryd.prog) w 24 9 5 (some a) 0 c Tryd.underlying24 Tryd.underlying5 Tryd.underlying9, run_bytesToString w a 0 c [] (by simpa using hl)]
      rfl
theorem IsBytes.below {w w' : World} {A : Option Addr} {n : Nat} {F : Nat → Int} (h : IsBytes w A n F) (hb : Below w.heap.size w w') : IsBytes w' A n F := Row.below h hb
theorem IsBytes.less {w : World} {A : Option Addr} {n m : Nat} {F : Nat → Int} (h : IsBytes w A n F) (hm : m ≤ n) : IsBytes w A m F := Row.less h hm
theorem readV_le (F : Nat → Int) (n : Nat) : (readV F n).1 ≤ 400 := by
  unfold readV
  split
  · show n / 3 ≤ 400; omega
  · exact Nat.zero_le _
end Go.Proofs.YtclndbiljhbbkaaDoor

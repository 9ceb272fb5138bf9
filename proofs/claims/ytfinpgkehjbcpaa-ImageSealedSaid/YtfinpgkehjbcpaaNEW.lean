/- Chapter 02: a new memory on both sides. -/
import Derived.Test.YtfinpgkehjbcpaaRM0
import Derived.Carry
import Derived.Deep.RegionLaw
namespace Go.Proofs.Ytfinpgkehjbcpaa
open Go.ChangeShapes Go.WideShapes Go.ChangeAt Go.RowKit Go.Deep Go.Joins Go.Maps
set_option linter.unusedVariables false
set_option linter.unusedSimpArgs false
/-- a size that a memory may have -/
def okN (n : Int) : Bool := decide (16 ≤ n) && decide (n ≤ 131072)
theorem okN_iff {n : Int} : okN n = true ↔ 16 ≤ n ∧ n ≤ 131072 := by simp [okN]
def nilHp (n : Int) : Hp := ⟨n.toNat, 0, []⟩
theorem good_nil {n : Int} (h : okN n = true) : Good (nilHp n) := by
  obtain ⟨h1, h2⟩ := okN_iff.1 h
  refine ⟨?_, ?_, ?_, ?_, ?_, ?_, ?_⟩
  · show 16 ≤ n.toNat; omega
  · show n.toNat ≤ 131072; omega
  · show 0 ≤ _; omega
  · show 3 + 0 ≤ n.toNat; omega
  all_goals intro o ho; exact absurd ho (by simp [nilHp])
theorem made_cells (n : Nat) : (madeCells #[Value.int .i64 0] n) = ((List.replicate n (0 : Int)).map (Value.int .i64)).toArray := by
  apply Array.ext
  · simp [madeCells]
  · intro i h1 h2
    simp [madeCells, Nat.mod_one]
theorem words_nil {n : Nat} (h : 3 ≤ n) : Words [] (List.replicate n 0) := by
  refine ⟨List.replicate (n - 3) 0, ?_⟩
  rw [show n = 3 + (n - 3) by omega, ← List.replicate_append_replicate]
  simp [encL]
theorem make_words (w : World) (n : Nat) (hn : n ≤ 131072) : (Instr.makeSlice 23 (.int .i64 (n : Int)) (.int .i64 (n : Int))).run Try.prog w = .ok (.slice (some ⟨w.heap.size, 0, none⟩) n n) (w.alloc (.cells (madeCells #[Value.int .i64 0] n) 3)) := by
  obtain ⟨i0, hi, hz0, hz1, hz2⟩ := info_parts infoI
  have := run_make (P := Try.prog) w 23 3 i0 (.int .i64 0) Try.underlying23 hi hz0 .i64 .i64 (n : Int) (n : Int) (by omega) (Int.le_refl _) (by rw [hz2]; omega) (by omega)
  simpa [hz1, Value.cells] using this
set_option maxRecDepth 100000 in
set_option maxHeartbeats 16000000 in
theorem pnew_any (w : World) (n : Int) (hi : InI n) :
    Calls Try.prog 23 #[.int .i64 n] w fun e w' => (if okN n then ∃ s bw bm, e = .returned (.pointer (some ⟨s, 0, none⟩)) ∧ (w.heap.size ≤ s ∧ w.heap.size ≤ bw ∧ w.heap.size ≤ bm) ∧ PM w' s bw bm (nilHp n) else e = .returned (.pointer none)) ∧ Below w.heap.size w w' := by
  by_cases hok : okN n = true
  · obtain ⟨h1, h2⟩ := okN_iff.1 hok
    have HOK := Lib.hid hok
    simp only [if_pos hok]
    clear hok hi
    obtain ⟨k, rfl⟩ : ∃ k : Nat, n = k := ⟨n.toNat, by omega⟩
    have d1 : decide ((k : Int) < 16) = false := decide_eq_false (by omega)
    have d2 : decide ((131072 : Int) < (k : Int)) = false := decide_eq_false (by omega)
    have hmk := fun w' => make_words w' k (by omega)
    have hmm := @run_makeMap Try.prog
    obtain ⟨M, hM⟩ : ∃ M, madeCells #[Value.int .i64 0] k = M := ⟨_, rfl⟩
    rw [hM] at hmk
    have HM := Lib.hid hM
    clear hM
    go_enter Try.func23, Try.ntmps23
    go_wp2_with fail
    go_ret
    refine ⟨⟨w.heap.size + 1 + 1, w.heap.size, w.heap.size + 1, rfl, ⟨by omega, by omega, by omega⟩, ?_⟩, ?_⟩
    · have hG := good_nil HOK.out
      have ek : ((k : Int)).toNat = k := by omega
      refine ⟨hG, ?_, ⟨List.replicate k 0, ?_, words_nil (by omega), ?_⟩, 0, fun _ => false, Nat.zero_le _, ?_, ?_⟩
      · obtain ⟨W, hW⟩ : ∃ W, (w.alloc (.cells M 3)).alloc (.map #[] 0) = W := ⟨_, rfl⟩
        have hs : W.heap.size = w.heap.size + 1 + 1 := by rw [← hW]; simp
        rw [hW, ← hs, (MapKept.heap_alloc W _).1]
        simp [nilHp, adr, szs]
      · simp [nilHp]
      · rw [← made_cells, HM.out]
        have hz : (w.alloc (.cells M 3)).heap.size = w.heap.size + 1 := by simp
        have hb : Below (w.heap.size + 1) (w.alloc (.cells M 3)) (((w.alloc (.cells M 3)).alloc (.map #[] 0)).alloc (.cells #[.slice (some ⟨w.heap.size, 0, none⟩) k k, .int .i64 3, .int .i64 0, .map (some (w.heap.size + 1))] 96)) := by
          rw [← hz]; exact (((Below.refl _ _).alloc (Nat.le_refl _) _).alloc (by simp) _)
        exact (hb.block w.heap.size (by omega)).trans (MapKept.heap_alloc w _).1
      · refine ⟨.map [], ?_, fun a _ => rfl⟩
        have hz : (w.alloc (.cells M 3)).heap.size = w.heap.size + 1 := by simp
        have := World.ownsMap_made (H := Unit) (w.alloc (.cells M 3)) Try.prog 3 (plainElem Try.prog 4)
        rw [hz] at this
        exact this.alloc _
      · intro a _
        constructor
        · intro q; cases q
        · rintro ⟨i, hi, _⟩; exact absurd hi (by simp [nilHp])
    · (repeat' (first | (with_reducible exact Below.refl _ _) | (with_reducible assumption) | (with_reducible refine below_drewN ?_ _) | (with_reducible refine Below.alloc ?_ ?_ _) | (with_reducible refine Below.drew ?_) | (with_reducible refine Below.setCell ?_ ?_ _) | go_size))
  · have hf : okN n = false := by simpa using hok
    have h12 : n < 16 ∨ 131072 < n := by
      rcases Int.lt_or_le n 16 with q | q
      · exact .inl q
      · rcases Int.lt_or_le 131072 n with q2 | q2
        · exact .inr q2
        · exact absurd (okN_iff.2 ⟨q, q2⟩) hok
    rw [hf]
    clear hf hok
    rcases h12 with q | q
    · have d1 : decide (n < 16) = true := decide_eq_true q
      clear q
      go_enter Try.func23, Try.ntmps23
      go_wp2_with fail
      go_ret
      exact ⟨rfl, by (repeat' (first | (with_reducible exact Below.refl _ _) | (with_reducible assumption) | (with_reducible refine below_drewN ?_ _) | (with_reducible refine Below.alloc ?_ ?_ _) | (with_reducible refine Below.drew ?_) | (with_reducible refine Below.setCell ?_ ?_ _) | go_size))⟩
    · have d1 : decide (n < 16) = false := decide_eq_false (by omega)
      have d2 : decide (131072 < n) = true := decide_eq_true q
      clear q
      go_enter Try.func23, Try.ntmps23
      go_wp2_with fail
      go_ret
      exact ⟨rfl, by (repeat' (first | (with_reducible exact Below.refl _ _) | (with_reducible assumption) | (with_reducible refine below_drewN ?_ _) | (with_reducible refine Below.alloc ?_ ?_ _) | (with_reducible refine Below.drew ?_) | (with_reducible refine Below.setCell ?_ ?_ _) | go_size))⟩
set_option maxRecDepth 100000 in
set_option maxHeartbeats 16000000 in
theorem rnew_any (w : World) (n : Int) (hi : InI n) :
    Calls Try.prog 24 #[.int .i64 n] w fun e w' => (if okN n then e = .returned (.pointer (some ⟨w.heap.size, 0, none⟩)) ∧ w'.heap.size = w.heap.size + 1 ∧ RM w' (fun k => k = w.heap.size) w.heap.size (nilHp n) (.slice none 0 0) (fun _ => .slice none 0 0) else e = .returned (.pointer none)) ∧ Below w.heap.size w w' := by
  by_cases hok : okN n = true
  · obtain ⟨h1, h2⟩ := okN_iff.1 hok
    have HOK := Lib.hid hok
    simp only [if_pos hok]
    clear hok hi
    obtain ⟨k, rfl⟩ : ∃ k : Nat, n = k := ⟨n.toNat, by omega⟩
    have d1 : decide ((k : Int) < 16) = false := decide_eq_false (by omega)
    have d2 : decide ((131072 : Int) < (k : Int)) = false := decide_eq_false (by omega)
    go_enter Try.func24, Try.ntmps24
    go_wp2_with fail
    go_ret
    refine ⟨⟨rfl, by simp, ?_⟩, ?_⟩
    · refine ⟨good_nil HOK.out, ?_, World.ownsRow_nil _ _ _ _, fun i hi => absurd hi (by simp [nilHp]), fun i j _ hj => absurd hj (by simp [nilHp]), ⟨rfl, (fun k hk => by cases hk), fun i hi => absurd hi (by simp [nilHp])⟩, fun k hk => by rw [show k = w.heap.size from hk]; simp⟩
      exact (MapKept.heap_alloc w _).1.trans (by simp [nilHp])
    · (repeat' (first | (with_reducible exact Below.refl _ _) | (with_reducible assumption) | (with_reducible refine below_drewN ?_ _) | (with_reducible refine Below.alloc ?_ ?_ _) | (with_reducible refine Below.drew ?_) | (with_reducible refine Below.setCell ?_ ?_ _) | go_size))
  · have hf : okN n = false := by simpa using hok
    have h12 : n < 16 ∨ 131072 < n := by
      rcases Int.lt_or_le n 16 with q | q
      · exact .inl q
      · rcases Int.lt_or_le 131072 n with q2 | q2
        · exact .inr q2
        · exact absurd (okN_iff.2 ⟨q, q2⟩) hok
    rw [hf]
    clear hf hok
    rcases h12 with q | q
    · have d1 : decide (n < 16) = true := decide_eq_true q
      clear q
      go_enter Try.func24, Try.ntmps24
      go_wp2_with fail
      go_ret
      exact ⟨rfl, by (repeat' (first | (with_reducible exact Below.refl _ _) | (with_reducible assumption) | (with_reducible refine below_drewN ?_ _) | (with_reducible refine Below.alloc ?_ ?_ _) | (with_reducible refine Below.drew ?_) | (with_reducible refine Below.setCell ?_ ?_ _) | go_size))⟩
    · have d1 : decide (n < 16) = false := decide_eq_false (by omega)
      have d2 : decide (131072 < n) = true := decide_eq_true q
      clear q
      go_enter Try.func24, Try.ntmps24
      go_wp2_with fail
      go_ret
      exact ⟨rfl, by (repeat' (first | (with_reducible exact Below.refl _ _) | (with_reducible assumption) | (with_reducible refine below_drewN ?_ _) | (with_reducible refine Below.alloc ?_ ?_ _) | (with_reducible refine Below.drew ?_) | (with_reducible refine Below.setCell ?_ ?_ _) | go_size))⟩
end Go.Proofs.Ytfinpgkehjbcpaa

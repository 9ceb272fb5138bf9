/- Chapter 02: the contract of move's step. -/
import Derived.Test.YthonodimjglnfaaHK1
import Derived.Lib.SlBuf
namespace Go.Proofs.Ythonodimjglnfaa
open Go.ChangeShapes Go.WideShapes Go.ChangeAt Go.RowKit Go.Deep Go.Joins Go.Maps
set_option linter.unusedVariables false
set_option linter.unusedSimpArgs false

theorem sgm_no {L : List Ob} {l : List Int} {x : Int} (h : isPointerV x = false) : sgm L l x = x := by unfold sgm; rw [h]; rfl
theorem sgm_yes {L : List Ob} {l : List Int} {x : Int} (h : isPointerV x = true) : sgm L l x = toV L l x := by unfold sgm; rw [h]; rfl
/-- where the first k objects' kept ones lie now -/
def plK (L : List Ob) (l : List Int) (k : Nat) (a : Int) : Bool := (List.range k).any (fun i => kp L l i && decide (((3 + szs (keptTo L l i) : Nat) : Int) = a))
theorem plK_no {L : List Ob} {l : List Int} {k : Nat} (h : kp L l k = false) (a : Int) : plK L l (k + 1) a = plK L l k a := by unfold plK; rw [List.range_succ, List.any_append]; simp [h]
theorem plK_yes {L : List Ob} {l : List Int} {k : Nat} (h : kp L l k = true) (a : Int) : plK L l (k + 1) a = if a = ((3 + szs (keptTo L l k) : Nat) : Int) then true else plK L l k a := by
  unfold plK
  rw [List.range_succ, List.any_append]
  by_cases e : a = ((3 + szs (keptTo L l k) : Nat) : Int)
  · rw [if_pos e, e]; simp [h]
  · rw [if_neg e]
    have : decide (((3 + szs (keptTo L l k) : Nat) : Int) = a) = false := decide_eq_false (fun q => e q.symm)
    simp only [List.any_cons, List.any_nil, this, Bool.and_false, Bool.or_false]
theorem keptTo_len (L : List Ob) (l : List Int) (k : Nat) : (keptTo L l k).length ≤ k := by unfold keptTo; rw [List.length_map]; exact Nat.le_trans (List.length_filter_le _ _) (by simp)
def mset (bw eb pm : Nat) (b : Nat) : Prop := b = bw ∨ b = eb ∨ b = pm
def MoveP (bw eb pm : Nat) (L : List Ob) (l : List Int) (n : Nat) (w : World) (k : Nat) (w' : World) : Prop := ∃ ys, w'.heap[bw]? = some (.cells ((ys).map (Value.int .i64)).toArray 3 (0, 0)) ∧ Gap L ((keptTo L l k).map (turnO (sgm L l))) k n ys ∧ w'.heap[eb]? = some (.cells #[.int .i64 ((3 + szs (keptTo L l k) : Nat) : Int)] 3 (0, 0)) ∧ BoolMap w' pm (keptTo L l k).length (plK L l k) ∧ Turns (mset bw eb pm) w w'
theorem infoSz : (Try.prog.info? 3).map (·.size) = some 1 := by kernel_rfl
theorem slice_part (lo nn bw sz : Nat) (h : lo + nn ≤ sz) (hlt : lo < sz) (w : World) : ∃ c5 : Nat, (Instr.slice 28 (.slice (some ⟨bw, 0, none⟩) sz sz) (some (.int .i64 ((lo : Nat) : Int))) (some (.int .i64 (((lo : Nat) : Int) + (nn : Int)))) none).run Try.prog w = .ok (.slice (some ⟨bw, lo, none⟩) nn c5) w := by
  obtain ⟨c5, A5, hs⟩ := slice_ints lo nn bw sz h
  have := (hs w).2 hlt
  subst this
  exact ⟨c5, (hs w).1⟩

end Go.Proofs.Ythonodimjglnfaa

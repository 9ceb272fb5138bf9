/- Chapter 09: an instruction that leads somewhere. -/
import Derived.Test.YtclndbiljhbbkaaDoorL2
namespace Go.Proofs.YtclndbiljhbbkaaDoor
open Go.ChangeShapes Go.WideShapes Go.ChangeAt Go.RowKit Go.Deep Go.Joins
set_option linter.unusedVariables false
set_option linter.unusedSimpArgs false
theorem ofInt_nat (a : Int) : (BitVec.ofInt 64 a).toNat = (a % 18446744073709551616).toNat := by rw [BitVec.toNat_ofInt]; rfl
theorem and_nat (a : Int) (m : Nat) (hm : m < 9223372036854775808) : bits .and .i64 a (m : Int) = (((a % 18446744073709551616).toNat &&& m : Nat) : Int) := by
  have h2 : (BitVec.ofInt 64 (m : Int)).toNat = m := by
    rw [BitVec.ofInt_natCast, BitVec.toNat_ofNat]; exact Nat.mod_eq_of_lt (by omega)
  show IntKind.i64.wrap ((BitVec.ofInt 64 a &&& BitVec.ofInt 64 (m : Int)).toNat : Int) = _
  have hx : (a % 18446744073709551616).toNat &&& m ≤ m := Nat.and_le_right
  rw [BitVec.toNat_and, ofInt_nat, h2, IntWalk.i64_in _ ⟨by omega, by omega⟩]
theorem and_255 (a : Int) : bits .and .i64 a 255 = a % 256 := by
  have h := and_nat a 255 (by omega)
  have e : (a % 18446744073709551616).toNat &&& 255 = (a % 18446744073709551616).toNat % 256 := Nat.and_two_pow_sub_one_eq_mod _ 8
  rw [e] at h
  rw [show (255 : Int) = ((255 : Nat) : Int) from rfl, h]; omega
/-- an instruction that is made to lead somewhere -/
def toV (op t : Int) : Ins × Int := if leadsB op = true ∧ 0 ≤ t ∧ t ≤ 400 then (⟨op, t % 256, t / 256⟩, 0) else (⟨0, 0, 0⟩, 1)
theorem to_yes {op t : Int} (h : leadsB op = true ∧ 0 ≤ t ∧ t ≤ 400) : toV op t = (⟨op, t % 256, t / 256⟩, 0) := if_pos h
theorem to_no {op t : Int} (h : ¬ (leadsB op = true ∧ 0 ≤ t ∧ t ≤ 400)) : toV op t = (⟨0, 0, 0⟩, 1) := if_neg h
set_option maxRecDepth 100000 in
set_option maxHeartbeats 16000000 in
theorem to_any (op t : Int) (w : World) : Calls Tryd.prog 14 #[.int .i64 op, .int .i64 t] w fun e w' => e = .returned (.tuple #[.agg #[.int .i64 (toV op t).1.op, .int .i64 (toV op t).1.a, .int .i64 (toV op t).1.b], .int .i64 (toV op t).2]) ∧ Below w.heap.size w w' := by
  have hand := and_255 t
  have H16 : op = 16 ∨ op = 17 ∨ (op ≠ 16 ∧ op ≠ 17) := by omega
  rcases H16 with rfl | rfl | ho
  · have HL : Hid (leadsB 16 = true) := Lib.hid rfl
    by_cases h0 : t < 0
    · have d0 : decide (t < 0) = true := decide_eq_true h0
      have HN : Hid (¬ (leadsB 16 = true ∧ 0 ≤ t ∧ t ≤ 400)) := Lib.hid (fun q => by omega)
      have HV := Lib.hid (to_no (op := 16) (t := t) HN.out)
      go_enter Tryd.func14, Tryd.ntmps14
      go_wp2_with (go_at_call 27; (with_reducible refine (leads_any 16 _).mono ?_); rw [HL.out]; rintro e w2 ⟨rfl, hw2⟩; replace hw2 := hw2.symm; subst hw2)
      refine bodyPost_ret (v := .tuple #[.agg #[.int .i64 0, .int .i64 0, .int .i64 0], .int .i64 1]) (by simp [results, Tryd.results14, go_sem]) rfl ?_
      exact ⟨by rw [HV.out], by (repeat' (first | (with_reducible exact Below.refl _ _) | (with_reducible assumption) | (with_reducible refine below_drewN ?_ _) | (with_reducible refine Below.alloc ?_ ?_ _) | (with_reducible refine Below.drew ?_) | (with_reducible refine Below.setCell ?_ ?_ _) | go_size))⟩
    · have d0 : decide (t < 0) = false := decide_eq_false h0
      by_cases h1 : 400 < t
      · have d1 : decide (400 < t) = true := decide_eq_true h1
        have HN : Hid (¬ (leadsB 16 = true ∧ 0 ≤ t ∧ t ≤ 400)) := Lib.hid (fun q => by omega)
        have HV := Lib.hid (to_no (op := 16) (t := t) HN.out)
        go_enter Tryd.func14, Tryd.ntmps14
        go_wp2_with (go_at_call 27; (with_reducible refine (leads_any 16 _).mono ?_); rw [HL.out]; rintro e w2 ⟨rfl, hw2⟩; replace hw2 := hw2.symm; subst hw2)
        refine bodyPost_ret (v := .tuple #[.agg #[.int .i64 0, .int .i64 0, .int .i64 0], .int .i64 1]) (by simp [results, Tryd.results14, go_sem]) rfl ?_
        exact ⟨by rw [HV.out], by (repeat' (first | (with_reducible exact Below.refl _ _) | (with_reducible assumption) | (with_reducible refine below_drewN ?_ _) | (with_reducible refine Below.alloc ?_ ?_ _) | (with_reducible refine Below.drew ?_) | (with_reducible refine Below.setCell ?_ ?_ _) | go_size))⟩
      · have d1 : decide (400 < t) = false := decide_eq_false h1
        have HN : Hid (leadsB 16 = true ∧ 0 ≤ t ∧ t ≤ 400) := Lib.hid ⟨rfl, by omega, by omega⟩
        have HV := Lib.hid (to_yes (op := 16) (t := t) HN.out)
        have q1 : (0 : Int) ≤ t := HN.out.2.1
        have q2 : t ≤ 400 := HN.out.2.2
        go_enter Tryd.func14, Tryd.ntmps14
        go_wp2_with (go_at_call 27; (with_reducible refine (leads_any 16 _).mono ?_); rw [HL.out]; rintro e w2 ⟨rfl, hw2⟩; replace hw2 := hw2.symm; subst hw2)
        refine bodyPost_ret (v := .tuple #[.agg #[.int .i64 16, .int .i64 (t % 256), .int .i64 (t / 256)], .int .i64 0]) (by simp [results, Tryd.results14, go_sem]) rfl ?_
        exact ⟨by rw [HV.out], by (repeat' (first | (with_reducible exact Below.refl _ _) | (with_reducible assumption) | (with_reducible refine below_drewN ?_ _) | (with_reducible refine Below.alloc ?_ ?_ _) | (with_reducible refine Below.drew ?_) | (with_reducible refine Below.setCell ?_ ?_ _) | go_size))⟩
  · have HL : Hid (leadsB 17 = true) := Lib.hid rfl
    by_cases h0 : t < 0
    · have d0 : decide (t < 0) = true := decide_eq_true h0
      have HN : Hid (¬ (leadsB 17 = true ∧ 0 ≤ t ∧ t ≤ 400)) := Lib.hid (fun q => by omega)
      have HV := Lib.hid (to_no (op := 17) (t := t) HN.out)
      go_enter Tryd.func14, Tryd.ntmps14
      go_wp2_with (go_at_call 27; (with_reducible refine (leads_any 17 _).mono ?_); rw [HL.out]; rintro e w2 ⟨rfl, hw2⟩; replace hw2 := hw2.symm; subst hw2)
      refine bodyPost_ret (v := .tuple #[.agg #[.int .i64 0, .int .i64 0, .int .i64 0], .int .i64 1]) (by simp [results, Tryd.results14, go_sem]) rfl ?_
      exact ⟨by rw [HV.out], by (repeat' (first | (with_reducible exact Below.refl _ _) | (with_reducible assumption) | (with_reducible refine below_drewN ?_ _) | (with_reducible refine Below.alloc ?_ ?_ _) | (with_reducible refine Below.drew ?_) | (with_reducible refine Below.setCell ?_ ?_ _) | go_size))⟩
    · have d0 : decide (t < 0) = false := decide_eq_false h0
      by_cases h1 : 400 < t
      · have d1 : decide (400 < t) = true := decide_eq_true h1
        have HN : Hid (¬ (leadsB 17 = true ∧ 0 ≤ t ∧ t ≤ 400)) := Lib.hid (fun q => by omega)
        have HV := Lib.hid (to_no (op := 17) (t := t) HN.out)
        go_enter Tryd.func14, Tryd.ntmps14
        go_wp2_with (go_at_call 27; (with_reducible refine (leads_any 17 _).mono ?_); rw [HL.out]; rintro e w2 ⟨rfl, hw2⟩; replace hw2 := hw2.symm; subst hw2)
        refine bodyPost_ret (v := .tuple #[.agg #[.int .i64 0, .int .i64 0, .int .i64 0], .int .i64 1]) (by simp [results, Tryd.results14, go_sem]) rfl ?_
        exact ⟨by rw [HV.out], by (repeat' (first | (with_reducible exact Below.refl _ _) | (with_reducible assumption) | (with_reducible refine below_drewN ?_ _) | (with_reducible refine Below.alloc ?_ ?_ _) | (with_reducible refine Below.drew ?_) | (with_reducible refine Below.setCell ?_ ?_ _) | go_size))⟩
      · have d1 : decide (400 < t) = false := decide_eq_false h1
        have HN : Hid (leadsB 17 = true ∧ 0 ≤ t ∧ t ≤ 400) := Lib.hid ⟨rfl, by omega, by omega⟩
        have HV := Lib.hid (to_yes (op := 17) (t := t) HN.out)
        have q1 : (0 : Int) ≤ t := HN.out.2.1
        have q2 : t ≤ 400 := HN.out.2.2
        go_enter Tryd.func14, Tryd.ntmps14
        go_wp2_with (go_at_call 27; (with_reducible refine (leads_any 17 _).mono ?_); rw [HL.out]; rintro e w2 ⟨rfl, hw2⟩; replace hw2 := hw2.symm; subst hw2)
        refine bodyPost_ret (v := .tuple #[.agg #[.int .i64 17, .int .i64 (t % 256), .int .i64 (t / 256)], .int .i64 0]) (by simp [results, Tryd.results14, go_sem]) rfl ?_
        exact ⟨by rw [HV.out], by (repeat' (first | (with_reducible exact Below.refl _ _) | (with_reducible assumption) | (with_reducible refine below_drewN ?_ _) | (with_reducible refine Below.alloc ?_ ?_ _) | (with_reducible refine Below.drew ?_) | (with_reducible refine Below.setCell ?_ ?_ _) | go_size))⟩
  · have e16 : (op == 16) = false := by simpa using ho.1
    have e17 : (op == 17) = false := by simpa using ho.2
    have m16 : (op != 16) = true := by simpa using ho.1
    have m17 : (op != 17) = true := by simpa using ho.2
    have HL : Hid (leadsB op = false) := Lib.hid (by unfold leadsB; rw [e16, e17]; rfl)
    have HN : Hid (¬ (leadsB op = true ∧ 0 ≤ t ∧ t ≤ 400)) := Lib.hid (fun q => by rw [HL.out] at q; cases q.1)
    clear ho
    have HV := Lib.hid (to_no (op := op) (t := t) HN.out)
    go_enter Tryd.func14, Tryd.ntmps14
    go_wp2_with (go_at_call 27; (with_reducible refine (leads_any op _).mono ?_); rw [HL.out]; rintro e w2 ⟨rfl, hw2⟩; replace hw2 := hw2.symm; subst hw2)
    refine bodyPost_ret (v := .tuple #[.agg #[.int .i64 0, .int .i64 0, .int .i64 0], .int .i64 1]) (by simp [results, Tryd.results14, go_sem]) rfl ?_
    exact ⟨by rw [HV.out], by (repeat' (first | (with_reducible exact Below.refl _ _) | (with_reducible assumption) | (with_reducible refine below_drewN ?_ _) | (with_reducible refine Below.alloc ?_ ?_ _) | (with_reducible refine Below.drew ?_) | (with_reducible refine Below.setCell ?_ ?_ _) | go_size))⟩
set_option maxRecDepth 100000 in
set_option maxHeartbeats 16000000 in
theorem rto_any (op t : Int) (w : World) : Calls Tryd.prog 15 #[.int .i64 op, .int .i64 t] w fun e w' => e = .returned (.tuple #[.agg #[.int .i64 (toV op t).1.op, .int .i64 (toV op t).1.a, .int .i64 (toV op t).1.b], .int .i64 (toV op t).2]) ∧ Below w.heap.size w w' := by
  have hand := and_255 t
  have H16 : op = 16 ∨ op = 17 ∨ (op ≠ 16 ∧ op ≠ 17) := by omega
  rcases H16 with rfl | rfl | ho
  · have HL : Hid (leadsB 16 = true) := Lib.hid rfl
    by_cases h0 : t < 0
    · have d0 : decide (t < 0) = true := decide_eq_true h0
      have HN : Hid (¬ (leadsB 16 = true ∧ 0 ≤ t ∧ t ≤ 400)) := Lib.hid (fun q => by omega)
      have HV := Lib.hid (to_no (op := 16) (t := t) HN.out)
      go_enter Tryd.func15, Tryd.ntmps15
      go_wp2_with fail
      refine bodyPost_ret (v := .tuple #[.agg #[.int .i64 0, .int .i64 0, .int .i64 0], .int .i64 1]) (by simp [results, Tryd.results15, go_sem]) rfl ?_
      exact ⟨by rw [HV.out], by (repeat' (first | (with_reducible exact Below.refl _ _) | (with_reducible assumption) | (with_reducible refine below_drewN ?_ _) | (with_reducible refine Below.alloc ?_ ?_ _) | (with_reducible refine Below.drew ?_) | (with_reducible refine Below.setCell ?_ ?_ _) | go_size))⟩
    · have d0 : decide (t < 0) = false := decide_eq_false h0
      by_cases h1 : 400 < t
      · have d1 : decide (400 < t) = true := decide_eq_true h1
        have HN : Hid (¬ (leadsB 16 = true ∧ 0 ≤ t ∧ t ≤ 400)) := Lib.hid (fun q => by omega)
        have HV := Lib.hid (to_no (op := 16) (t := t) HN.out)
        go_enter Tryd.func15, Tryd.ntmps15
        go_wp2_with fail
        refine bodyPost_ret (v := .tuple #[.agg #[.int .i64 0, .int .i64 0, .int .i64 0], .int .i64 1]) (by simp [results, Tryd.results15, go_sem]) rfl ?_
        exact ⟨by rw [HV.out], by (repeat' (first | (with_reducible exact Below.refl _ _) | (with_reducible assumption) | (with_reducible refine below_drewN ?_ _) | (with_reducible refine Below.alloc ?_ ?_ _) | (with_reducible refine Below.drew ?_) | (with_reducible refine Below.setCell ?_ ?_ _) | go_size))⟩
      · have d1 : decide (400 < t) = false := decide_eq_false h1
        have HN : Hid (leadsB 16 = true ∧ 0 ≤ t ∧ t ≤ 400) := Lib.hid ⟨rfl, by omega, by omega⟩
        have HV := Lib.hid (to_yes (op := 16) (t := t) HN.out)
        have q1 : (0 : Int) ≤ t := HN.out.2.1
        have q2 : t ≤ 400 := HN.out.2.2
        go_enter Tryd.func15, Tryd.ntmps15
        go_wp2_with fail
        refine bodyPost_ret (v := .tuple #[.agg #[.int .i64 16, .int .i64 (t % 256), .int .i64 (t / 256)], .int .i64 0]) (by simp [results, Tryd.results15, go_sem]) rfl ?_
        exact ⟨by rw [HV.out], by (repeat' (first | (with_reducible exact Below.refl _ _) | (with_reducible assumption) | (with_reducible refine below_drewN ?_ _) | (with_reducible refine Below.alloc ?_ ?_ _) | (with_reducible refine Below.drew ?_) | (with_reducible refine Below.setCell ?_ ?_ _) | go_size))⟩
  · have HL : Hid (leadsB 17 = true) := Lib.hid rfl
    by_cases h0 : t < 0
    · have d0 : decide (t < 0) = true := decide_eq_true h0
      have HN : Hid (¬ (leadsB 17 = true ∧ 0 ≤ t ∧ t ≤ 400)) := Lib.hid (fun q => by omega)
      have HV := Lib.hid (to_no (op := 17) (t := t) HN.out)
      go_enter Tryd.func15, Tryd.ntmps15
      go_wp2_with fail
      refine bodyPost_ret (v := .tuple #[.agg #[.int .i64 0, .int .i64 0, .int .i64 0], .int .i64 1]) (by simp [results, Tryd.results15, go_sem]) rfl ?_
      exact ⟨by rw [HV.out], by (repeat' (first | (with_reducible exact Below.refl _ _) | (with_reducible assumption) | (with_reducible refine below_drewN ?_ _) | (with_reducible refine Below.alloc ?_ ?_ _) | (with_reducible refine Below.drew ?_) | (with_reducible refine Below.setCell ?_ ?_ _) | go_size))⟩
    · have d0 : decide (t < 0) = false := decide_eq_false h0
      by_cases h1 : 400 < t
      · have d1 : decide (400 < t) = true := decide_eq_true h1
        have HN : Hid (¬ (leadsB 17 = true ∧ 0 ≤ t ∧ t ≤ 400)) := Lib.hid (fun q => by omega)
        have HV := Lib.hid (to_no (op := 17) (t := t) HN.out)
        go_enter Tryd.func15, Tryd.ntmps15
        go_wp2_with fail
        refine bodyPost_ret (v := .tuple #[.agg #[.int .i64 0, .int .i64 0, .int .i64 0], .int .i64 1]) (by simp [results, Tryd.results15, go_sem]) rfl ?_
        exact ⟨by rw [HV.out], by (repeat' (first | (with_reducible exact Below.refl _ _) | (with_reducible assumption) | (with_reducible refine below_drewN ?_ _) | (with_reducible refine Below.alloc ?_ ?_ _) | (with_reducible refine Below.drew ?_) | (with_reducible refine Below.setCell ?_ ?_ _) | go_size))⟩
      · have d1 : decide (400 < t) = false := decide_eq_false h1
        have HN : Hid (leadsB 17 = true ∧ 0 ≤ t ∧ t ≤ 400) := Lib.hid ⟨rfl, by omega, by omega⟩
        have HV := Lib.hid (to_yes (op := 17) (t := t) HN.out)
        have q1 : (0 : Int) ≤ t := HN.out.2.1
        have q2 : t ≤ 400 := HN.out.2.2
        go_enter Tryd.func15, Tryd.ntmps15
        go_wp2_with fail
        refine bodyPost_ret (v := .tuple #[.agg #[.int .i64 17, .int .i64 (t % 256), .int .i64 (t / 256)], .int .i64 0]) (by simp [results, Tryd.results15, go_sem]) rfl ?_
        exact ⟨by rw [HV.out], by (repeat' (first | (with_reducible exact Below.refl _ _) | (with_reducible assumption) | (with_reducible refine below_drewN ?_ _) | (with_reducible refine Below.alloc ?_ ?_ _) | (with_reducible refine Below.drew ?_) | (with_reducible refine Below.setCell ?_ ?_ _) | go_size))⟩
  · have e16 : (op == 16) = false := by simpa using ho.1
    have e17 : (op == 17) = false := by simpa using ho.2
    have m16 : (op != 16) = true := by simpa using ho.1
    have m17 : (op != 17) = true := by simpa using ho.2
    have HL : Hid (leadsB op = false) := Lib.hid (by unfold leadsB; rw [e16, e17]; rfl)
    have HN : Hid (¬ (leadsB op = true ∧ 0 ≤ t ∧ t ≤ 400)) := Lib.hid (fun q => by rw [HL.out] at q; cases q.1)
    clear ho
    have HV := Lib.hid (to_no (op := op) (t := t) HN.out)
    go_enter Tryd.func15, Tryd.ntmps15
    go_wp2_with fail
    refine bodyPost_ret (v := .tuple #[.agg #[.int .i64 0, .int .i64 0, .int .i64 0], .int .i64 1]) (by simp [results, Tryd.results15, go_sem]) rfl ?_
    exact ⟨by rw [HV.out], by (repeat' (first | (with_reducible exact Below.refl _ _) | (with_reducible assumption) | (with_reducible refine below_drewN ?_ _) | (with_reducible refine Below.alloc ?_ ?_ _) | (with_reducible refine Below.drew ?_) | (with_reducible refine Below.setCell ?_ ?_ _) | go_size))⟩
end Go.Proofs.YtclndbiljhbbkaaDoor

/- Contracts: whether an instruction may be, where it leads. -/
import Derived.Test.YtclndbiljhbbkaaDoorL1
namespace Go.Proofs.YtclndbiljhbbkaaDoor
open Go.ChangeShapes Go.WideShapes Go.ChangeAt Go.RowKit
set_option linter.unusedVariables false
set_option linter.unusedSimpArgs false

theorem operand_any (n : Int) (u : Bool) (w : World) : Calls Tryd.prog 29 #[.int .i64 n, .bool u] w fun e w' => e = .returned (.bool (operB n u)) ∧ w' = w := by
  by_cases h0 : n = 0
  · subst h0
    have F : Hid (operB 0 u = true) := rfl
    cases u
    all_goals
      go_enter Tryd.func29, Tryd.ntmps29
      go_wp2
      go_ret
      exact ⟨ret_bool F.out.symm, rfl⟩
  · have e0 : (n == 0) = false := by simpa using h0
    cases u
    · have F : Hid (operB n false = false) := by show _ = _; unfold operB; rw [e0]; rfl
      clear h0
      go_enter Tryd.func29, Tryd.ntmps29
      go_wp2
      go_ret
      exact ⟨ret_bool F.out.symm, rfl⟩
    · by_cases h1 : 0 < n
      · have d1 : decide (0 < n) = true := decide_eq_true h1
        by_cases h2 : n ≤ 255
        · have d2 : decide (n ≤ 255) = true := decide_eq_true h2
          have F : Hid (operB n true = true) := by show _ = _; unfold operB; rw [e0, d1, d2]; rfl
          clear h0
          go_enter Tryd.func29, Tryd.ntmps29
          go_wp2
          go_ret
          exact ⟨ret_bool F.out.symm, rfl⟩
        · have d2 : decide (n ≤ 255) = false := decide_eq_false h2
          have F : Hid (operB n true = false) := by show _ = _; unfold operB; rw [e0, d1, d2]; rfl
          clear h0
          go_enter Tryd.func29, Tryd.ntmps29
          go_wp2
          go_ret
          exact ⟨ret_bool F.out.symm, rfl⟩
      · have d1 : decide (0 < n) = false := decide_eq_false h1
        have F : Hid (operB n true = false) := by show _ = _; unfold operB; rw [e0, d1]; rfl
        clear h0
        go_enter Tryd.func29, Tryd.ntmps29
        go_wp2
        go_ret
        exact ⟨ret_bool F.out.symm, rfl⟩

set_option maxHeartbeats 4000000 in
theorem may_any (op : Int) (a : Int) (b : Int) (w : World) : Calls Tryd.prog 16 #[.agg #[.int .i64 op, .int .i64 a, .int .i64 b]] w fun e w' => e = .returned (.bool (mayB ⟨op, a, b⟩)) ∧ Below w.heap.size w w' := by
  obtain ⟨u1, h1⟩ : ∃ u, decide (0 < usesV op) = u := ⟨_, rfl⟩
  obtain ⟨u2, h2⟩ : ∃ u, decide (1 < usesV op) = u := ⟨_, rfl⟩
  obtain ⟨x, hx⟩ : ∃ x, operB a u1 = x := ⟨_, rfl⟩
  obtain ⟨y, hy⟩ : ∃ y, operB b u2 = y := ⟨_, rfl⟩
  have HU := Lib.hid h1
  have HV := Lib.hid h2
  have HA := Lib.hid hx
  have HB := Lib.hid hy
  have M : Hid (mayB ⟨op, a, b⟩ = (decide (1 ≤ op) && decide (op ≤ 20) && x && y)) := by show _ = _; unfold mayB; rw [h1, h2, hx, hy]
  clear h1 h2 hx hy
  by_cases p1 : 1 ≤ op
  · have d1 : decide (1 ≤ op) = true := decide_eq_true p1
    by_cases p2 : op ≤ 20
    · have d2 : decide (op ≤ 20) = true := decide_eq_true p2
      have F : Hid (mayB ⟨op, a, b⟩ = (x && y)) := by show _ = _; rw [M.out, d1, d2]; rfl
      cases x
      · go_enter Tryd.func16, Tryd.ntmps16
        go_wp2_with (first | (go_at_call 28; (with_reducible refine (uses_any _ _).mono ?_); rw [HU.out, HV.out]; rintro e w' ⟨rfl, rfl⟩) | (go_at_call 29; (with_reducible refine (operand_any a u1 _).mono ?_); rw [HA.out]; rintro e w' ⟨rfl, rfl⟩) | (go_at_call 29; (with_reducible refine (operand_any b u2 _).mono ?_); rw [HB.out]; rintro e w' ⟨rfl, rfl⟩))
        go_ret
        exact ⟨ret_bool F.out.symm, by (repeat' (first | (with_reducible exact Below.refl _ _) | (with_reducible assumption) | (with_reducible refine below_drewN ?_ _) | (with_reducible refine Below.alloc ?_ ?_ _) | (with_reducible refine Below.drew ?_) | (with_reducible refine Below.setCell ?_ ?_ _) | go_size))⟩
      · go_enter Tryd.func16, Tryd.ntmps16
        go_wp2_with (first | (go_at_call 28; (with_reducible refine (uses_any _ _).mono ?_); rw [HU.out, HV.out]; rintro e w' ⟨rfl, rfl⟩) | (go_at_call 29; (with_reducible refine (operand_any a u1 _).mono ?_); rw [HA.out]; rintro e w' ⟨rfl, rfl⟩) | (go_at_call 29; (with_reducible refine (operand_any b u2 _).mono ?_); rw [HB.out]; rintro e w' ⟨rfl, rfl⟩))
        go_ret
        exact ⟨ret_bool F.out.symm, by (repeat' (first | (with_reducible exact Below.refl _ _) | (with_reducible assumption) | (with_reducible refine below_drewN ?_ _) | (with_reducible refine Below.alloc ?_ ?_ _) | (with_reducible refine Below.drew ?_) | (with_reducible refine Below.setCell ?_ ?_ _) | go_size))⟩
    · have d2 : decide (op ≤ 20) = false := decide_eq_false p2
      have F : Hid (mayB ⟨op, a, b⟩ = false) := by show _ = _; rw [M.out, d1, d2]; rfl
      go_enter Tryd.func16, Tryd.ntmps16
      go_wp2_with (first | (go_at_call 28; (with_reducible refine (uses_any _ _).mono ?_); rw [HU.out, HV.out]; rintro e w' ⟨rfl, rfl⟩) | (go_at_call 29; (with_reducible refine (operand_any a u1 _).mono ?_); rw [HA.out]; rintro e w' ⟨rfl, rfl⟩) | (go_at_call 29; (with_reducible refine (operand_any b u2 _).mono ?_); rw [HB.out]; rintro e w' ⟨rfl, rfl⟩))
      go_ret
      exact ⟨ret_bool F.out.symm, by (repeat' (first | (with_reducible exact Below.refl _ _) | (with_reducible assumption) | (with_reducible refine below_drewN ?_ _) | (with_reducible refine Below.alloc ?_ ?_ _) | (with_reducible refine Below.drew ?_) | (with_reducible refine Below.setCell ?_ ?_ _) | go_size))⟩
  · have d1 : decide (1 ≤ op) = false := decide_eq_false p1
    have F : Hid (mayB ⟨op, a, b⟩ = false) := by show _ = _; rw [M.out, d1]; rfl
    go_enter Tryd.func16, Tryd.ntmps16
    go_wp2_with (first | (go_at_call 28; (with_reducible refine (uses_any _ _).mono ?_); rw [HU.out, HV.out]; rintro e w' ⟨rfl, rfl⟩) | (go_at_call 29; (with_reducible refine (operand_any a u1 _).mono ?_); rw [HA.out]; rintro e w' ⟨rfl, rfl⟩) | (go_at_call 29; (with_reducible refine (operand_any b u2 _).mono ?_); rw [HB.out]; rintro e w' ⟨rfl, rfl⟩))
    go_ret
    exact ⟨ret_bool F.out.symm, by (repeat' (first | (with_reducible exact Below.refl _ _) | (with_reducible assumption) | (with_reducible refine below_drewN ?_ _) | (with_reducible refine Below.alloc ?_ ?_ _) | (with_reducible refine Below.drew ?_) | (with_reducible refine Below.setCell ?_ ?_ _) | go_size))⟩

theorem leads_any (op : Int) (w : World) : Calls Tryd.prog 27 #[.int .i64 op] w fun e w' => e = .returned (.bool (leadsB op)) ∧ w' = w := by
  cases h : op == 16
  · cases h2 : op == 17
    · have F : Hid (leadsB op = false) := by show _ = _; unfold leadsB; rw [h, h2]; rfl
      go_enter Tryd.func27, Tryd.ntmps27
      go_wp2
      go_ret
      exact ⟨ret_bool F.out.symm, rfl⟩
    · have F : Hid (leadsB op = true) := by show _ = _; unfold leadsB; rw [h, h2]; rfl
      go_enter Tryd.func27, Tryd.ntmps27
      go_wp2
      go_ret
      exact ⟨ret_bool F.out.symm, rfl⟩
  · have F : Hid (leadsB op = true) := by show _ = _; unfold leadsB; rw [h]; rfl
    go_enter Tryd.func27, Tryd.ntmps27
    go_wp2
    go_ret
    exact ⟨ret_bool F.out.symm, rfl⟩

set_option maxHeartbeats 4000000 in
theorem target_any (op : Int) (a : Int) (b : Int) (w : World) (ha1 : -1000000 ≤ a) (ha2 : a ≤ 1000000) (hb1 : -1000000 ≤ b) (hb2 : b ≤ 1000000) : Calls Tryd.prog 18 #[.agg #[.int .i64 op, .int .i64 a, .int .i64 b]] w fun e w' => e = .returned (.int .i64 (targetV ⟨op, a, b⟩)) ∧ Below w.heap.size w w' := by
  cases h : leadsB op
  · have F : Hid (targetV ⟨op, a, b⟩ = -1) := by show _ = _; unfold targetV; rw [h]; rfl
    go_enter Tryd.func18, Tryd.ntmps18
    go_wp2_with (go_at_call 27; (with_reducible refine (leads_any _ _).mono ?_); rw [h]; rintro e w' ⟨rfl, rfl⟩)
    go_ret
    exact ⟨ret_int F.out.symm, by (repeat' (first | (with_reducible exact Below.refl _ _) | (with_reducible assumption) | (with_reducible refine below_drewN ?_ _) | (with_reducible refine Below.alloc ?_ ?_ _) | (with_reducible refine Below.drew ?_) | (with_reducible refine Below.setCell ?_ ?_ _) | go_size))⟩
  · have F : Hid (targetV ⟨op, a, b⟩ = a + b * 256) := by show _ = _; unfold targetV; rw [h]; rfl
    have hsh : IntKind.i64.wrap (b * 256) = b * 256 := IntWalk.i64_in _ (by omega)
    go_enter Tryd.func18, Tryd.ntmps18
    go_wp2_with (go_at_call 27; (with_reducible refine (leads_any _ _).mono ?_); rw [h]; rintro e w' ⟨rfl, rfl⟩)
    go_ret
    exact ⟨ret_int F.out.symm, by (repeat' (first | (with_reducible exact Below.refl _ _) | (with_reducible assumption) | (with_reducible refine below_drewN ?_ _) | (with_reducible refine Below.alloc ?_ ?_ _) | (with_reducible refine Below.drew ?_) | (with_reducible refine Below.setCell ?_ ?_ _) | go_size))⟩

set_option maxHeartbeats 4000000 in
theorem rtarget_any (op : Int) (a : Int) (b : Int) (w : World) (ha1 : -1000000 ≤ a) (ha2 : a ≤ 1000000) (hb1 : -1000000 ≤ b) (hb2 : b ≤ 1000000) : Calls Tryd.prog 19 #[.agg #[.int .i64 op, .int .i64 a, .int .i64 b]] w fun e w' => e = .returned (.int .i64 (targetV ⟨op, a, b⟩)) ∧ Below w.heap.size w w' := by
  cases h : op == 16
  · have n1 : (op != 16) = true := by unfold bne; rw [h]; rfl
    cases h2 : op == 17
    · have n2 : (op != 17) = true := by unfold bne; rw [h2]; rfl
      have F : Hid (targetV ⟨op, a, b⟩ = -1) := by show _ = _; unfold targetV leadsB; rw [h, h2]; rfl
      go_enter Tryd.func19, Tryd.ntmps19
      go_wp2
      go_ret
      exact ⟨ret_int F.out.symm, by (repeat' (first | (with_reducible exact Below.refl _ _) | (with_reducible assumption) | (with_reducible refine below_drewN ?_ _) | (with_reducible refine Below.alloc ?_ ?_ _) | (with_reducible refine Below.drew ?_) | (with_reducible refine Below.setCell ?_ ?_ _) | go_size))⟩
    · have n2 : (op != 17) = false := by unfold bne; rw [h2]; rfl
      have F : Hid (targetV ⟨op, a, b⟩ = a + 256 * b) := by show _ = _; unfold targetV leadsB; rw [h, h2]; show a + b * 256 = _; omega
      go_enter Tryd.func19, Tryd.ntmps19
      go_wp2
      go_ret
      exact ⟨ret_int F.out.symm, by (repeat' (first | (with_reducible exact Below.refl _ _) | (with_reducible assumption) | (with_reducible refine below_drewN ?_ _) | (with_reducible refine Below.alloc ?_ ?_ _) | (with_reducible refine Below.drew ?_) | (with_reducible refine Below.setCell ?_ ?_ _) | go_size))⟩
  · have n1 : (op != 16) = false := by unfold bne; rw [h]; rfl
    have F : Hid (targetV ⟨op, a, b⟩ = a + 256 * b) := by show _ = _; unfold targetV leadsB; rw [h]; show a + b * 256 = _; omega
    go_enter Tryd.func19, Tryd.ntmps19
    go_wp2
    go_ret
    exact ⟨ret_int F.out.symm, by (repeat' (first | (with_reducible exact Below.refl _ _) | (with_reducible assumption) | (with_reducible refine below_drewN ?_ _) | (with_reducible refine Below.alloc ?_ ?_ _) | (with_reducible refine Below.drew ?_) | (with_reducible refine Below.setCell ?_ ?_ _) | go_size))⟩

theorem may_no {op a b : Int} (h : op < 1 ∨ 20 < op ∨ a < 0 ∨ 255 < a ∨ b < 0 ∨ 255 < b) : mayB ⟨op, a, b⟩ = false := by
  cases hm : mayB ⟨op, a, b⟩
  · rfl
  · have := may_bounds hm
    simp only at this
    omega
theorem may_in {op a b : Int} (h1 : 1 ≤ op) (h2 : op ≤ 20) (h3 : 0 ≤ a) (h4 : a ≤ 255) (h5 : 0 ≤ b) (h6 : b ≤ 255) : mayB ⟨op, a, b⟩ = ((decide (0 < usesV op) || a == 0) && (decide (1 < usesV op) || b == 0)) := by
  unfold mayB operB
  have e1 : decide (1 ≤ op) = true := decide_eq_true h1
  have e2 : decide (op ≤ 20) = true := decide_eq_true h2
  have e4 : decide (a ≤ 255) = true := decide_eq_true h4
  have e6 : decide (b ≤ 255) = true := decide_eq_true h6
  simp only [e1, e2, e4, e6, Bool.and_true, Bool.true_and]
  congr 1
  · by_cases ha : a = 0
    · subst ha; simp
    · have : decide (0 < a) = true := decide_eq_true (by omega)
      simp [this, ha, Bool.or_comm]
  · by_cases hb : b = 0
    · subst hb; simp
    · have : decide (0 < b) = true := decide_eq_true (by omega)
      simp [this, hb, Bool.or_comm]

set_option maxHeartbeats 4000000 in
theorem rmay_any (op : Int) (a : Int) (b : Int) (w : World) : Calls Tryd.prog 17 #[.agg #[.int .i64 op, .int .i64 a, .int .i64 b]] w fun e w' => e = .returned (.bool (mayB ⟨op, a, b⟩)) ∧ Below w.heap.size w w' := by
  obtain ⟨u, hu⟩ : ∃ u, usesV op = u := ⟨_, rfl⟩
  have HU := Lib.hid hu
  clear hu
  by_cases p1 : op < 1
  · have F : Hid (mayB ⟨op, a, b⟩ = false) := by show _ = _; exact may_no (by omega)
    go_enter Tryd.func17, Tryd.ntmps17
    go_wp2_with (go_at_call 30; (with_reducible refine (ruses_any _ _).mono ?_); rw [HU.out]; rintro e w' ⟨rfl, rfl⟩)
    go_ret
    exact ⟨ret_bool F.out.symm, by (repeat' (first | (with_reducible exact Below.refl _ _) | (with_reducible assumption) | (with_reducible refine below_drewN ?_ _) | (with_reducible refine Below.alloc ?_ ?_ _) | (with_reducible refine Below.drew ?_) | (with_reducible refine Below.setCell ?_ ?_ _) | go_size))⟩
  by_cases p2 : 20 < op
  · have F : Hid (mayB ⟨op, a, b⟩ = false) := by show _ = _; exact may_no (by omega)
    go_enter Tryd.func17, Tryd.ntmps17
    go_wp2_with (go_at_call 30; (with_reducible refine (ruses_any _ _).mono ?_); rw [HU.out]; rintro e w' ⟨rfl, rfl⟩)
    go_ret
    exact ⟨ret_bool F.out.symm, by (repeat' (first | (with_reducible exact Below.refl _ _) | (with_reducible assumption) | (with_reducible refine below_drewN ?_ _) | (with_reducible refine Below.alloc ?_ ?_ _) | (with_reducible refine Below.drew ?_) | (with_reducible refine Below.setCell ?_ ?_ _) | go_size))⟩
  by_cases p3 : a < 0
  · have F : Hid (mayB ⟨op, a, b⟩ = false) := by show _ = _; exact may_no (by omega)
    go_enter Tryd.func17, Tryd.ntmps17
    go_wp2_with (go_at_call 30; (with_reducible refine (ruses_any _ _).mono ?_); rw [HU.out]; rintro e w' ⟨rfl, rfl⟩)
    go_ret
    exact ⟨ret_bool F.out.symm, by (repeat' (first | (with_reducible exact Below.refl _ _) | (with_reducible assumption) | (with_reducible refine below_drewN ?_ _) | (with_reducible refine Below.alloc ?_ ?_ _) | (with_reducible refine Below.drew ?_) | (with_reducible refine Below.setCell ?_ ?_ _) | go_size))⟩
  by_cases p4 : 255 < a
  · have F : Hid (mayB ⟨op, a, b⟩ = false) := by show _ = _; exact may_no (by omega)
    go_enter Tryd.func17, Tryd.ntmps17
    go_wp2_with (go_at_call 30; (with_reducible refine (ruses_any _ _).mono ?_); rw [HU.out]; rintro e w' ⟨rfl, rfl⟩)
    go_ret
    exact ⟨ret_bool F.out.symm, by (repeat' (first | (with_reducible exact Below.refl _ _) | (with_reducible assumption) | (with_reducible refine below_drewN ?_ _) | (with_reducible refine Below.alloc ?_ ?_ _) | (with_reducible refine Below.drew ?_) | (with_reducible refine Below.setCell ?_ ?_ _) | go_size))⟩
  by_cases p5 : b < 0
  · have F : Hid (mayB ⟨op, a, b⟩ = false) := by show _ = _; exact may_no (by omega)
    go_enter Tryd.func17, Tryd.ntmps17
    go_wp2_with (go_at_call 30; (with_reducible refine (ruses_any _ _).mono ?_); rw [HU.out]; rintro e w' ⟨rfl, rfl⟩)
    go_ret
    exact ⟨ret_bool F.out.symm, by (repeat' (first | (with_reducible exact Below.refl _ _) | (with_reducible assumption) | (with_reducible refine below_drewN ?_ _) | (with_reducible refine Below.alloc ?_ ?_ _) | (with_reducible refine Below.drew ?_) | (with_reducible refine Below.setCell ?_ ?_ _) | go_size))⟩
  by_cases p6 : 255 < b
  · have F : Hid (mayB ⟨op, a, b⟩ = false) := by show _ = _; exact may_no (by omega)
    go_enter Tryd.func17, Tryd.ntmps17
    go_wp2_with (go_at_call 30; (with_reducible refine (ruses_any _ _).mono ?_); rw [HU.out]; rintro e w' ⟨rfl, rfl⟩)
    go_ret
    exact ⟨ret_bool F.out.symm, by (repeat' (first | (with_reducible exact Below.refl _ _) | (with_reducible assumption) | (with_reducible refine below_drewN ?_ _) | (with_reducible refine Below.alloc ?_ ?_ _) | (with_reducible refine Below.drew ?_) | (with_reducible refine Below.setCell ?_ ?_ _) | go_size))⟩
  have M : Hid (mayB ⟨op, a, b⟩ = ((decide (0 < u) || a == 0) && (decide (1 < u) || b == 0))) := by show _ = _; rw [may_in (by omega) (by omega) (by omega) (by omega) (by omega) (by omega), HU.out]
  cases q1 : decide (0 < u)
  · have r1 : ¬ 0 < u := of_decide_eq_false q1
    have r2 : ¬ 1 < u := by omega
    have q2 : decide (1 < u) = false := decide_eq_false r2
    cases q3 : a == 0
    · have F : Hid (mayB ⟨op, a, b⟩ = false) := by show _ = _; rw [M.out, q1, q3]; rfl
      go_enter Tryd.func17, Tryd.ntmps17
      go_wp2_with (go_at_call 30; (with_reducible refine (ruses_any _ _).mono ?_); rw [HU.out]; rintro e w' ⟨rfl, rfl⟩)
      go_ret
      exact ⟨ret_bool F.out.symm, by (repeat' (first | (with_reducible exact Below.refl _ _) | (with_reducible assumption) | (with_reducible refine below_drewN ?_ _) | (with_reducible refine Below.alloc ?_ ?_ _) | (with_reducible refine Below.drew ?_) | (with_reducible refine Below.setCell ?_ ?_ _) | go_size))⟩
    · cases q4 : b == 0
      · have F : Hid (mayB ⟨op, a, b⟩ = false) := by show _ = _; rw [M.out, q1, q2, q3, q4]; rfl
        go_enter Tryd.func17, Tryd.ntmps17
        go_wp2_with (go_at_call 30; (with_reducible refine (ruses_any _ _).mono ?_); rw [HU.out]; rintro e w' ⟨rfl, rfl⟩)
        go_ret
        exact ⟨ret_bool F.out.symm, by (repeat' (first | (with_reducible exact Below.refl _ _) | (with_reducible assumption) | (with_reducible refine below_drewN ?_ _) | (with_reducible refine Below.alloc ?_ ?_ _) | (with_reducible refine Below.drew ?_) | (with_reducible refine Below.setCell ?_ ?_ _) | go_size))⟩
      · have F : Hid (mayB ⟨op, a, b⟩ = true) := by show _ = _; rw [M.out, q1, q2, q3, q4]; rfl
        go_enter Tryd.func17, Tryd.ntmps17
        go_wp2_with (go_at_call 30; (with_reducible refine (ruses_any _ _).mono ?_); rw [HU.out]; rintro e w' ⟨rfl, rfl⟩)
        go_ret
        exact ⟨ret_bool F.out.symm, by (repeat' (first | (with_reducible exact Below.refl _ _) | (with_reducible assumption) | (with_reducible refine below_drewN ?_ _) | (with_reducible refine Below.alloc ?_ ?_ _) | (with_reducible refine Below.drew ?_) | (with_reducible refine Below.setCell ?_ ?_ _) | go_size))⟩
  · have r1 : 0 < u := of_decide_eq_true q1
    cases q2 : decide (1 < u)
    · have r2 : ¬ 1 < u := of_decide_eq_false q2
      cases q4 : b == 0
      · have F : Hid (mayB ⟨op, a, b⟩ = false) := by show _ = _; rw [M.out, q1, q2, q4]; rfl
        go_enter Tryd.func17, Tryd.ntmps17
        go_wp2_with (go_at_call 30; (with_reducible refine (ruses_any _ _).mono ?_); rw [HU.out]; rintro e w' ⟨rfl, rfl⟩)
        go_ret
        exact ⟨ret_bool F.out.symm, by (repeat' (first | (with_reducible exact Below.refl _ _) | (with_reducible assumption) | (with_reducible refine below_drewN ?_ _) | (with_reducible refine Below.alloc ?_ ?_ _) | (with_reducible refine Below.drew ?_) | (with_reducible refine Below.setCell ?_ ?_ _) | go_size))⟩
      · have F : Hid (mayB ⟨op, a, b⟩ = true) := by show _ = _; rw [M.out, q1, q2, q4]; rfl
        go_enter Tryd.func17, Tryd.ntmps17
        go_wp2_with (go_at_call 30; (with_reducible refine (ruses_any _ _).mono ?_); rw [HU.out]; rintro e w' ⟨rfl, rfl⟩)
        go_ret
        exact ⟨ret_bool F.out.symm, by (repeat' (first | (with_reducible exact Below.refl _ _) | (with_reducible assumption) | (with_reducible refine below_drewN ?_ _) | (with_reducible refine Below.alloc ?_ ?_ _) | (with_reducible refine Below.drew ?_) | (with_reducible refine Below.setCell ?_ ?_ _) | go_size))⟩
    · have r2 : 1 < u := of_decide_eq_true q2
      have F : Hid (mayB ⟨op, a, b⟩ = true) := by show _ = _; rw [M.out, q1, q2]; rfl
      go_enter Tryd.func17, Tryd.ntmps17
      go_wp2_with (go_at_call 30; (with_reducible refine (ruses_any _ _).mono ?_); rw [HU.out]; rintro e w' ⟨rfl, rfl⟩)
      go_ret
      exact ⟨ret_bool F.out.symm, by (repeat' (first | (with_reducible exact Below.refl _ _) | (with_reducible assumption) | (with_reducible refine below_drewN ?_ _) | (with_reducible refine Below.alloc ?_ ?_ _) | (with_reducible refine Below.drew ?_) | (with_reducible refine Below.setCell ?_ ?_ _) | go_size))⟩
end Go.Proofs.YtclndbiljhbbkaaDoor

/- Contracts: the inside of a block. -/
import Derived.Test.YtnjfjebmkajpbaaL2
namespace Go.Proofs.Ytnjfjebmkajpbaa
open Go.ChangeShapes Go.WideShapes Go.ChangeAt Go.RowKit
set_option linter.unusedVariables false
set_option linter.unusedSimpArgs false

def Small (n : Nat) (C : Nat → Ins) : Prop := ∀ k, k < n → -1000000 ≤ (C k).a ∧ (C k).a ≤ 1000000 ∧ -1000000 ≤ (C k).b ∧ (C k).b ≤ 1000000
def insT (n : Nat) (C : Nat → Ins) (p : Nat) : Int := if (C p).op = 18 ∧ p + 1 < n ∧ (C (p + 1)).op = 16 then targetV (C (p + 1)) else 0
def insB (n : Nat) (C : Nat → Ins) (p : Nat) : Bool := decide ((C p).op = 18 ∧ p + 1 < n ∧ (C (p + 1)).op = 16) && decide ((p : Int) + 2 < targetV (C (p + 1)))
theorem ins_end (n : Nat) (C : Nat → Ins) (p : Nat) : endV n C p = if insB n C p then insT n C p else -1 := by
  unfold endV insB insT
  by_cases h : (C p).op = 18 ∧ p + 1 < n ∧ (C (p + 1)).op = 16
  · by_cases h2 : (p : Int) + 2 < targetV (C (p + 1))
    · rw [if_pos ⟨h.1, h.2.1, h.2.2, h2⟩, if_pos h, decide_eq_true h, decide_eq_true h2]; rfl
    · rw [if_neg (fun q => h2 q.2.2.2), decide_eq_true h, decide_eq_false h2]; rfl
  · rw [if_neg (fun q => h ⟨q.1, q.2.1, q.2.2.1⟩), decide_eq_false h]; rfl
theorem end_lt (n : Nat) (C : Nat → Ins) (p : Nat) : endV n C p = -1 ∨ (p : Int) + 2 < endV n C p := by
  unfold endV
  split
  · next h => exact .inr h.2.2.2
  · exact .inl rfl
theorem ret_ib {a b : Int} {p q : Bool} (h : a = b) (h' : p = q) : Ending.returned (.tuple #[.int .i64 a, .bool p]) = .returned (.tuple #[.int .i64 b, .bool q]) := by rw [h, h']

set_option maxHeartbeats 4000000 in
theorem inside_any {w0 w : World} {p : Option Addr} {n c k : Nat} {C : Nat → Ins} (hC : IsCode w0 p n C) (hB : Below w0.heap.size w0 w) (hS : Small n C) (hk : k < n) (hn : n ≤ 100000) : Calls Try.prog 31 #[.slice p n c, .int .i64 k] w fun e w' => e = .returned (.tuple #[.int .i64 (insT n C k), .bool (insB n C k)]) ∧ Below w.heap.size w w' := by
  have n18 : ((C k).op != 18) = !((C k).op == 18) := rfl
  obtain ⟨b, off, rfl, hlt, c0, c1, c2⟩ := hC.at_ hB hk
  have g0 : (0 : Int) ≤ (k : Int) := by omega
  have g1 : (k : Int) < (n : Int) := by omega
  have b5 : ((k : Int) + 1).toNat = k + 1 := by omega
  have b6 : IntKind.i64.wrap ((k : Int) + 1) = (k : Int) + 1 := IntWalk.i64_in _ (by omega)
  have b7 : (0 : Int) ≤ (k : Int) + 1 := by omega
  have hbl := hB.size
  obtain ⟨i, hi⟩ : ∃ i, C k = i := ⟨_, rfl⟩
  rw [hi] at c0 c1 c2 n18
  cases q1 : i.op == 18
  · have e1 : (i.op != 18) = true := by unfold bne; rw [q1]; rfl
    have hne : ¬ i.op = 18 := by simpa using q1
    have F : Hid (Ending.returned (.tuple #[.int .i64 0, .bool false]) = .returned (.tuple #[.int .i64 (insT n C k), .bool (insB n C k)])) := by show _ = _; (have e : ¬ ((C k).op = 18 ∧ k + 1 < n ∧ (C (k + 1)).op = 16) := fun h => hne (hi ▸ h.1); unfold insT insB; rw [if_neg e, decide_eq_false e]; rfl)
    clear hne n18
    go_enter Try.func31, Try.ntmps31
    go_wp2
    go_ret2
    exact ⟨F.out, by (repeat' (first | (with_reducible exact Below.refl _ _) | (with_reducible assumption) | (with_reducible refine below_drewN ?_ _) | (with_reducible refine Below.alloc ?_ ?_ _) | (with_reducible refine Below.drew ?_) | (with_reducible refine Below.setCell ?_ ?_ _) | go_size))⟩
  · have e1 : (i.op != 18) = false := by unfold bne; rw [q1]; rfl
    have h18 : i.op = 18 := by simpa using q1
    by_cases hk1 : k + 1 < n
    · have d1 : decide (n ≤ k + 1) = false := decide_eq_false (by omega)
      have d2 : decide ((n : Int) ≤ (k : Int) + 1) = false := decide_eq_false (by omega)
      have g2 : (k : Int) + 1 < (n : Int) := by omega
      obtain ⟨b', off', e', _, c3, c4, c5⟩ := hC.at_ hB hk1
      cases e'
      have hs := hS (k + 1) hk1
      obtain ⟨j, hj⟩ : ∃ j, C (k + 1) = j := ⟨_, rfl⟩
      rw [hj] at c3 c4 c5 hs
      obtain ⟨s1, s2, s3, s4⟩ := hs
      cases q2 : j.op == 16
      · have e2 : (j.op != 16) = true := by unfold bne; rw [q2]; rfl
        have hne : ¬ j.op = 16 := by simpa using q2
        have F : Hid (Ending.returned (.tuple #[.int .i64 0, .bool false]) = .returned (.tuple #[.int .i64 (insT n C k), .bool (insB n C k)])) := by show _ = _; (have e : ¬ ((C k).op = 18 ∧ k + 1 < n ∧ (C (k + 1)).op = 16) := fun h => hne (hj ▸ h.2.2); unfold insT insB; rw [if_neg e, decide_eq_false e]; rfl)
        clear hne n18 h18
        go_enter Try.func31, Try.ntmps31
        go_wp2
        go_ret2
        exact ⟨F.out, by (repeat' (first | (with_reducible exact Below.refl _ _) | (with_reducible assumption) | (with_reducible refine below_drewN ?_ _) | (with_reducible refine Below.alloc ?_ ?_ _) | (with_reducible refine Below.drew ?_) | (with_reducible refine Below.setCell ?_ ?_ _) | go_size))⟩
      · have e2 : (j.op != 16) = false := by unfold bne; rw [q2]; rfl
        have h16 : j.op = 16 := by simpa using q2
        obtain ⟨t, ht⟩ : ∃ t, targetV ⟨j.op, j.a, j.b⟩ = t := ⟨_, rfl⟩
        have HT := Lib.hid ht
        have htb : -300000000 ≤ t ∧ t ≤ 300000000 := by rw [← ht]; unfold targetV; split <;> (try simp only) <;> omega
        obtain ⟨t1, t2⟩ := htb
        by_cases hgt : (k : Int) + 2 < t
        · have d3 : decide ((k : Int) + 2 < t) = true := decide_eq_true hgt
          have d4 : decide (t ≤ (k : Int) + 2) = false := decide_eq_false (by omega)
          have F : Hid (Ending.returned (.tuple #[.int .i64 t, .bool true]) = .returned (.tuple #[.int .i64 (insT n C k), .bool (insB n C k)])) := by show _ = _; (have e : (C k).op = 18 ∧ k + 1 < n ∧ (C (k + 1)).op = 16 := ⟨hi ▸ h18, hk1, hj ▸ h16⟩; unfold insT insB; rw [if_pos e, decide_eq_true e, hj, show targetV j = t from ht, d3]; rfl)
          clear ht n18 h18 h16
          go_enter Try.func31, Try.ntmps31
          go_wp2_with (go_at_call 37; (with_reducible refine (target_any _ _ _ _ s1 s2 s3 s4).mono ?_); rw [HT.out]; rintro e w' ⟨rfl, hb⟩)
          go_ret2
          have hbs := hb.size
          exact ⟨F.out, by (repeat' (first | (with_reducible exact Below.refl _ _) | (with_reducible assumption) | (with_reducible refine below_drewN ?_ _) | (with_reducible refine Below.alloc ?_ ?_ _) | (with_reducible refine Below.drew ?_) | (with_reducible refine Below.setCell ?_ ?_ _) | go_size))⟩
        · have d3 : decide ((k : Int) + 2 < t) = false := decide_eq_false hgt
          have d4 : decide (t ≤ (k : Int) + 2) = true := decide_eq_true (by omega)
          have F : Hid (Ending.returned (.tuple #[.int .i64 t, .bool false]) = .returned (.tuple #[.int .i64 (insT n C k), .bool (insB n C k)])) := by show _ = _; (have e : (C k).op = 18 ∧ k + 1 < n ∧ (C (k + 1)).op = 16 := ⟨hi ▸ h18, hk1, hj ▸ h16⟩; unfold insT insB; rw [if_pos e, decide_eq_true e, hj, show targetV j = t from ht, d3]; rfl)
          clear ht n18 h18 h16
          go_enter Try.func31, Try.ntmps31
          go_wp2_with (go_at_call 37; (with_reducible refine (target_any _ _ _ _ s1 s2 s3 s4).mono ?_); rw [HT.out]; rintro e w' ⟨rfl, hb⟩)
          go_ret2
          have hbs := hb.size
          exact ⟨F.out, by (repeat' (first | (with_reducible exact Below.refl _ _) | (with_reducible assumption) | (with_reducible refine below_drewN ?_ _) | (with_reducible refine Below.alloc ?_ ?_ _) | (with_reducible refine Below.drew ?_) | (with_reducible refine Below.setCell ?_ ?_ _) | go_size))⟩
    · have d1 : decide (n ≤ k + 1) = true := decide_eq_true (by omega)
      have d2 : decide ((n : Int) ≤ (k : Int) + 1) = true := decide_eq_true (by omega)
      have F : Hid (Ending.returned (.tuple #[.int .i64 0, .bool false]) = .returned (.tuple #[.int .i64 (insT n C k), .bool (insB n C k)])) := by show _ = _; (have e : ¬ ((C k).op = 18 ∧ k + 1 < n ∧ (C (k + 1)).op = 16) := fun h => hk1 h.2.1; unfold insT insB; rw [if_neg e, decide_eq_false e]; rfl)
      clear n18 h18
      go_enter Try.func31, Try.ntmps31
      go_wp2
      go_ret2
      exact ⟨F.out, by (repeat' (first | (with_reducible exact Below.refl _ _) | (with_reducible assumption) | (with_reducible refine below_drewN ?_ _) | (with_reducible refine Below.alloc ?_ ?_ _) | (with_reducible refine Below.drew ?_) | (with_reducible refine Below.setCell ?_ ?_ _) | go_size))⟩

set_option maxHeartbeats 4000000 in
theorem end_any {w0 w : World} {p : Option Addr} {n c k : Nat} {C : Nat → Ins} (hC : IsCode w0 p n C) (hB : Below w0.heap.size w0 w) (hS : Small n C) (hk : k < n) (hn : n ≤ 100000) : Calls Try.prog 32 #[.slice p n c, .int .i64 k] w fun e w' => e = .returned (.int .i64 (endV n C k)) ∧ Below w.heap.size w w' := by
  have n18 : ((C k).op != 18) = !((C k).op == 18) := rfl
  obtain ⟨b, off, rfl, hlt, c0, c1, c2⟩ := hC.at_ hB hk
  have g0 : (0 : Int) ≤ (k : Int) := by omega
  have g1 : (k : Int) < (n : Int) := by omega
  have b5 : ((k : Int) + 1).toNat = k + 1 := by omega
  have b6 : IntKind.i64.wrap ((k : Int) + 1) = (k : Int) + 1 := IntWalk.i64_in _ (by omega)
  have b7 : (0 : Int) ≤ (k : Int) + 1 := by omega
  have hbl := hB.size
  obtain ⟨i, hi⟩ : ∃ i, C k = i := ⟨_, rfl⟩
  rw [hi] at c0 c1 c2 n18
  cases q1 : i.op == 18
  · have e1 : (i.op != 18) = true := by unfold bne; rw [q1]; rfl
    have hne : ¬ i.op = 18 := by simpa using q1
    have F : Hid (Ending.returned (.int .i64 (-1)) = .returned (.int .i64 (endV n C k))) := by show _ = _; (have e : ¬ ((C k).op = 18 ∧ k + 1 < n ∧ (C (k + 1)).op = 16) := fun h => hne (hi ▸ h.1); unfold endV; rw [if_neg (fun h => e ⟨h.1, h.2.1, h.2.2.1⟩)])
    clear hne n18
    go_enter Try.func32, Try.ntmps32
    go_wp2
    go_ret
    exact ⟨F.out, by (repeat' (first | (with_reducible exact Below.refl _ _) | (with_reducible assumption) | (with_reducible refine below_drewN ?_ _) | (with_reducible refine Below.alloc ?_ ?_ _) | (with_reducible refine Below.drew ?_) | (with_reducible refine Below.setCell ?_ ?_ _) | go_size))⟩
  · have e1 : (i.op != 18) = false := by unfold bne; rw [q1]; rfl
    have h18 : i.op = 18 := by simpa using q1
    by_cases hk1 : k + 1 < n
    · have d1 : decide (n ≤ k + 1) = false := decide_eq_false (by omega)
      have d2 : decide ((n : Int) ≤ (k : Int) + 1) = false := decide_eq_false (by omega)
      have g2 : (k : Int) + 1 < (n : Int) := by omega
      obtain ⟨b', off', e', _, c3, c4, c5⟩ := hC.at_ hB hk1
      cases e'
      have hs := hS (k + 1) hk1
      obtain ⟨j, hj⟩ : ∃ j, C (k + 1) = j := ⟨_, rfl⟩
      rw [hj] at c3 c4 c5 hs
      obtain ⟨s1, s2, s3, s4⟩ := hs
      cases q2 : j.op == 16
      · have e2 : (j.op != 16) = true := by unfold bne; rw [q2]; rfl
        have hne : ¬ j.op = 16 := by simpa using q2
        have F : Hid (Ending.returned (.int .i64 (-1)) = .returned (.int .i64 (endV n C k))) := by show _ = _; (have e : ¬ ((C k).op = 18 ∧ k + 1 < n ∧ (C (k + 1)).op = 16) := fun h => hne (hj ▸ h.2.2); unfold endV; rw [if_neg (fun h => e ⟨h.1, h.2.1, h.2.2.1⟩)])
        clear hne n18 h18
        go_enter Try.func32, Try.ntmps32
        go_wp2
        go_ret
        exact ⟨F.out, by (repeat' (first | (with_reducible exact Below.refl _ _) | (with_reducible assumption) | (with_reducible refine below_drewN ?_ _) | (with_reducible refine Below.alloc ?_ ?_ _) | (with_reducible refine Below.drew ?_) | (with_reducible refine Below.setCell ?_ ?_ _) | go_size))⟩
      · have e2 : (j.op != 16) = false := by unfold bne; rw [q2]; rfl
        have h16 : j.op = 16 := by simpa using q2
        obtain ⟨t, ht⟩ : ∃ t, targetV ⟨j.op, j.a, j.b⟩ = t := ⟨_, rfl⟩
        have HT := Lib.hid ht
        have htb : -300000000 ≤ t ∧ t ≤ 300000000 := by rw [← ht]; unfold targetV; split <;> (try simp only) <;> omega
        obtain ⟨t1, t2⟩ := htb
        by_cases hgt : (k : Int) + 2 < t
        · have d3 : decide ((k : Int) + 2 < t) = true := decide_eq_true hgt
          have d4 : decide (t ≤ (k : Int) + 2) = false := decide_eq_false (by omega)
          have F : Hid (Ending.returned (.int .i64 t) = .returned (.int .i64 (endV n C k))) := by show _ = _; (have e : (C k).op = 18 ∧ k + 1 < n ∧ (C (k + 1)).op = 16 := ⟨hi ▸ h18, hk1, hj ▸ h16⟩; unfold endV; rw [hj, show targetV j = t from ht, if_pos ⟨e.1, e.2.1, hj ▸ e.2.2, hgt⟩])
          clear ht n18 h18 h16
          go_enter Try.func32, Try.ntmps32
          go_wp2_with (go_at_call 29; (with_reducible refine (rtarget_any _ _ _ _ s1 s2 s3 s4).mono ?_); rw [HT.out]; rintro e w' ⟨rfl, hb⟩)
          go_ret
          have hbs := hb.size
          exact ⟨F.out, by (repeat' (first | (with_reducible exact Below.refl _ _) | (with_reducible assumption) | (with_reducible refine below_drewN ?_ _) | (with_reducible refine Below.alloc ?_ ?_ _) | (with_reducible refine Below.drew ?_) | (with_reducible refine Below.setCell ?_ ?_ _) | go_size))⟩
        · have d3 : decide ((k : Int) + 2 < t) = false := decide_eq_false hgt
          have d4 : decide (t ≤ (k : Int) + 2) = true := decide_eq_true (by omega)
          have F : Hid (Ending.returned (.int .i64 (-1)) = .returned (.int .i64 (endV n C k))) := by show _ = _; (have e : (C k).op = 18 ∧ k + 1 < n ∧ (C (k + 1)).op = 16 := ⟨hi ▸ h18, hk1, hj ▸ h16⟩; unfold endV; rw [hj, show targetV j = t from ht, if_neg (fun h => hgt h.2.2.2)])
          clear ht n18 h18 h16
          go_enter Try.func32, Try.ntmps32
          go_wp2_with (go_at_call 29; (with_reducible refine (rtarget_any _ _ _ _ s1 s2 s3 s4).mono ?_); rw [HT.out]; rintro e w' ⟨rfl, hb⟩)
          go_ret
          have hbs := hb.size
          exact ⟨F.out, by (repeat' (first | (with_reducible exact Below.refl _ _) | (with_reducible assumption) | (with_reducible refine below_drewN ?_ _) | (with_reducible refine Below.alloc ?_ ?_ _) | (with_reducible refine Below.drew ?_) | (with_reducible refine Below.setCell ?_ ?_ _) | go_size))⟩
    · have d1 : decide (n ≤ k + 1) = true := decide_eq_true (by omega)
      have d2 : decide ((n : Int) ≤ (k : Int) + 1) = true := decide_eq_true (by omega)
      have F : Hid (Ending.returned (.int .i64 (-1)) = .returned (.int .i64 (endV n C k))) := by show _ = _; (have e : ¬ ((C k).op = 18 ∧ k + 1 < n ∧ (C (k + 1)).op = 16) := fun h => hk1 h.2.1; unfold endV; rw [if_neg (fun h => e ⟨h.1, h.2.1, h.2.2.1⟩)])
      clear n18 h18
      go_enter Try.func32, Try.ntmps32
      go_wp2
      go_ret
      exact ⟨F.out, by (repeat' (first | (with_reducible exact Below.refl _ _) | (with_reducible assumption) | (with_reducible refine below_drewN ?_ _) | (with_reducible refine Below.alloc ?_ ?_ _) | (with_reducible refine Below.drew ?_) | (with_reducible refine Below.setCell ?_ ?_ _) | go_size))⟩
end Go.Proofs.Ytnjfjebmkajpbaa

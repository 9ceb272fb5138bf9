/- Contracts: whether blocks lie within their owners: the reference. -/
import Derived.Test.YtnjfjebmkajpbaaL5
namespace Go.Proofs.Ytnjfjebmkajpbaa
open Go.ChangeShapes Go.WideShapes Go.ChangeAt Go.RowKit
set_option linter.unusedVariables false
set_option linter.unusedSimpArgs false
set_option maxHeartbeats 8000000 in
theorem rshape_any {w0 w : World} {p po : Option Addr} {n c co : Nat} {C : Nat → Ins} (hC : IsCode w0 p n C) (hO : Row w0 po n 1 (fun i _ => .int .i64 (ownV n C i))) (hB : Below w0.heap.size w0 w) (hS : Small n C) (hn : n ≤ 100000) :
    Calls Try.prog 26 #[.slice p n c, .slice po n co] w fun e w' => e = .returned (.bool (shapeB n C)) ∧ Below w.heap.size w w' := by
  have hI : Inv w0 w w w := Inv.start hB (Below.refl _ _)
  clear hB
  go_enter Try.func26, Try.ntmps26
  go_wp2_with fail
  go_loopw [5] (fun i wr => ∃ k : Nat, k ≤ n ∧ i = .int .i64 k ∧ (∀ j, j < k → shapeAt n C j = true) ∧ Inv w0 w w wr) (fun i _ => n - (intOf i).toNat)
  case atStart => exact ⟨0, Nat.zero_le _, rfl, fun j hj => absurd hj (by omega), hI⟩
  case round =>
    clear hI
    obtain ⟨k, hk, rfl, hall, hI⟩ := hrel
    have HALL := Lib.hid hall
    clear hall
    by_cases hlt : k < n
    · have d1 : decide (k < n) = true := decide_eq_true hlt
      obtain ⟨bb, off, rfl, hlt0, c0, c1, c2⟩ := hC.at_ hI.b0 hlt
      obtain ⟨b2, off2, e2, hlt2, v0⟩ := row_int hO hI.b0 hlt
      subst e2
      have HOC : Hid (∀ w', Below w0.heap.size w0 w' → ∀ j, j < n → w'.cell? ⟨b2, off2 + j, none⟩ = some (.int .i64 (ownV n C j))) := fun w' hb j hj => by
        obtain ⟨_, _, e, _, h⟩ := row_int hO hb hj
        cases e; exact h
      have hws := hI.b0.size
      have hwz := hI.bw.size
      have g0 : (0 : Int) ≤ (k : Int) := by omega
      have g1 : (k : Int) < (n : Int) := by omega
      obtain ⟨s1, s2, s3, s4⟩ := hS k hlt
      obtain ⟨i, hi⟩ : ∃ i, C k = i := ⟨_, rfl⟩
      have HI := Lib.hid hi
      rw [hi] at c0 c1 c2 s1 s2 s3 s4
      obtain ⟨t, ht⟩ : ∃ t, targetV ⟨i.op, i.a, i.b⟩ = t := ⟨_, rfl⟩
      have HT := Lib.hid ht
      have htb : -300000000 ≤ t ∧ t ≤ 300000000 := by rw [← ht]; unfold targetV; split <;> (try simp only) <;> omega
      obtain ⟨t1, t2⟩ := htb
      obtain ⟨o, ho⟩ : ∃ o, ownV n C k = o := ⟨_, rfl⟩
      have HO := Lib.hid ho
      have hb0 := hI.b0
      have hbw := hI.bw
      clear hi ho ht v0 hO
      have SA : Hid (shapeAt n C k = if i.op = 18 then decide (0 ≤ endV n C k) && decide (endV n C k ≤ mostV n C k) else decide (t < 0) || (decide (t < n) && decide (ownV n C t.toNat = o))) := by
        show _ = _
        unfold shapeAt
        rw [HI.out, HO.out, show targetV i = t from HT.out]
      cases q18 : i.op == 18
      · have n18 : (i.op != 18) = true := by unfold bne; rw [q18]; rfl
        have h18 : ¬ i.op = 18 := by simpa using q18
        have SB : Hid (shapeAt n C k = (decide (t < 0) || (decide (t < n) && decide (ownV n C t.toNat = o)))) := by show _ = _; rw [SA.out, if_neg h18]
        clear h18
        by_cases ht0 : t < 0
        · have f1 : decide (0 ≤ t) = false := decide_eq_false (by omega)
          have f2 : ¬ 0 ≤ t := by omega
          have F : Hid (shapeAt n C k = true) := by show _ = _; rw [SB.out, decide_eq_true ht0]; rfl
          go_wp2_with fail
          (with_reducible refine (rtarget_any _ _ _ _ s1 s2 s3 s4).mono ?_)
          rw [HT.out]
          rintro e w5 ⟨rfl, hb5⟩
          have hB_w5 : Below w0.heap.size w0 w5 := by exact (show Below w0.heap.size w0 wr by (repeat' (first | (with_reducible exact Below.refl _ _) | (with_reducible assumption) | (with_reducible refine below_drewN ?_ _) | (with_reducible refine Below.alloc ?_ ?_ _) | (with_reducible refine Below.drew ?_) | (with_reducible refine Below.setCell ?_ ?_ _) | go_size))).trans (hb5.mono (by omega))
          have hW_w5 : Below w.heap.size w w5 := by exact (show Below w.heap.size w wr by (repeat' (first | (with_reducible exact Below.refl _ _) | (with_reducible assumption) | (with_reducible refine below_drewN ?_ _) | (with_reducible refine Below.alloc ?_ ?_ _) | (with_reducible refine Below.drew ?_) | (with_reducible refine Below.setCell ?_ ?_ _) | go_size))).trans (hb5.mono (by omega))
          have y_w5 := HOC.out _ hB_w5 k hlt
          rw [HO.out] at y_w5
          have HK : Hid (Inv w0 w w w5) := ⟨hB_w5, hW_w5, hW_w5⟩
          go_wp2_with fail
          go_quiet (fail)
          go_wp2_with fail
          go_roundw
          case rel => exact ⟨k + 1, by omega, by go_num, fun j hj => (by
              rcases Nat.lt_or_ge j k with h | h
              · exact HALL.out j h
              · obtain rfl : j = k := by omega
                exact F.out), HK.out.go (by (repeat' (first | (with_reducible exact Below.refl _ _) | (with_reducible assumption) | (with_reducible refine below_drewN ?_ _) | (with_reducible refine Below.alloc ?_ ?_ _) | (with_reducible refine Below.drew ?_) | (with_reducible refine Below.setCell ?_ ?_ _) | go_size)))⟩
          case measure => simp [intOf]; omega
        · have f1 : decide (0 ≤ t) = true := decide_eq_true (by omega)
          have f2 : 0 ≤ t := by omega
          by_cases htn : t < n
          · have f3 : decide ((n : Int) ≤ t) = false := decide_eq_false (by omega)
            obtain ⟨tn, rfl⟩ := Int.eq_ofNat_of_zero_le f2
            have htn' : tn < n := by omega
            have f4 : decide (n ≤ tn) = false := decide_eq_false (by omega)
            obtain ⟨o', ho'⟩ : ∃ o', ownV n C tn = o' := ⟨_, rfl⟩
            have HO' := Lib.hid ho'
            clear ho'
            by_cases hoo : o' = o
            · subst hoo
              have F : Hid (shapeAt n C k = true) := by show _ = _; rw [SB.out, Int.toNat_natCast, HO'.out, decide_eq_true htn]; simp
              go_wp2_with fail
              (with_reducible refine (rtarget_any _ _ _ _ s1 s2 s3 s4).mono ?_)
              rw [HT.out]
              rintro e w5 ⟨rfl, hb5⟩
              have hB_w5 : Below w0.heap.size w0 w5 := by exact (show Below w0.heap.size w0 wr by (repeat' (first | (with_reducible exact Below.refl _ _) | (with_reducible assumption) | (with_reducible refine below_drewN ?_ _) | (with_reducible refine Below.alloc ?_ ?_ _) | (with_reducible refine Below.drew ?_) | (with_reducible refine Below.setCell ?_ ?_ _) | go_size))).trans (hb5.mono (by omega))
              have hW_w5 : Below w.heap.size w w5 := by exact (show Below w.heap.size w wr by (repeat' (first | (with_reducible exact Below.refl _ _) | (with_reducible assumption) | (with_reducible refine below_drewN ?_ _) | (with_reducible refine Below.alloc ?_ ?_ _) | (with_reducible refine Below.drew ?_) | (with_reducible refine Below.setCell ?_ ?_ _) | go_size))).trans (hb5.mono (by omega))
              have y_w5 := HOC.out _ hB_w5 k hlt
              rw [HO.out] at y_w5
              have z_w5 := HOC.out _ hB_w5 tn htn'
              rw [HO'.out] at z_w5
              have HK : Hid (Inv w0 w w w5) := ⟨hB_w5, hW_w5, hW_w5⟩
              go_wp2_with fail
              go_quiet (fail)
              go_wp2_with fail
              go_roundw
              case rel => exact ⟨k + 1, by omega, by go_num, fun j hj => (by
                  rcases Nat.lt_or_ge j k with h | h
                  · exact HALL.out j h
                  · obtain rfl : j = k := by omega
                    exact F.out), HK.out.go (by (repeat' (first | (with_reducible exact Below.refl _ _) | (with_reducible assumption) | (with_reducible refine below_drewN ?_ _) | (with_reducible refine Below.alloc ?_ ?_ _) | (with_reducible refine Below.drew ?_) | (with_reducible refine Below.setCell ?_ ?_ _) | go_size)))⟩
              case measure => simp [intOf]; omega
            · have n5 : (o' != o) = true := by simpa using hoo
              have F : Hid (shapeAt n C k = false) := by show _ = _; rw [SB.out, Int.toNat_natCast, HO'.out, decide_eq_false hoo, decide_eq_false ht0]; simp
              clear hoo
              go_wp2_with fail
              (with_reducible refine (rtarget_any _ _ _ _ s1 s2 s3 s4).mono ?_)
              rw [HT.out]
              rintro e w5 ⟨rfl, hb5⟩
              have hB_w5 : Below w0.heap.size w0 w5 := by exact (show Below w0.heap.size w0 wr by (repeat' (first | (with_reducible exact Below.refl _ _) | (with_reducible assumption) | (with_reducible refine below_drewN ?_ _) | (with_reducible refine Below.alloc ?_ ?_ _) | (with_reducible refine Below.drew ?_) | (with_reducible refine Below.setCell ?_ ?_ _) | go_size))).trans (hb5.mono (by omega))
              have hW_w5 : Below w.heap.size w w5 := by exact (show Below w.heap.size w wr by (repeat' (first | (with_reducible exact Below.refl _ _) | (with_reducible assumption) | (with_reducible refine below_drewN ?_ _) | (with_reducible refine Below.alloc ?_ ?_ _) | (with_reducible refine Below.drew ?_) | (with_reducible refine Below.setCell ?_ ?_ _) | go_size))).trans (hb5.mono (by omega))
              have y_w5 := HOC.out _ hB_w5 k hlt
              rw [HO.out] at y_w5
              have z_w5 := HOC.out _ hB_w5 tn htn'
              rw [HO'.out] at z_w5
              go_wp2_with fail
              go_quiet (fail)
              go_wp2_with fail
              go_ret
              have hfin := hW_w5
              exact ⟨ret_bool (shape_no hlt F.out).symm, by (repeat' (first | (with_reducible exact Below.refl _ _) | (with_reducible assumption) | (with_reducible refine below_drewN ?_ _) | (with_reducible refine Below.alloc ?_ ?_ _) | (with_reducible refine Below.drew ?_) | (with_reducible refine Below.setCell ?_ ?_ _) | go_size))⟩
          · have f3 : decide ((n : Int) ≤ t) = true := decide_eq_true (by omega)
            have F : Hid (shapeAt n C k = false) := by show _ = _; rw [SB.out, decide_eq_false ht0, decide_eq_false htn]; rfl
            go_wp2_with fail
            (with_reducible refine (rtarget_any _ _ _ _ s1 s2 s3 s4).mono ?_)
            rw [HT.out]
            rintro e w5 ⟨rfl, hb5⟩
            have hB_w5 : Below w0.heap.size w0 w5 := by exact (show Below w0.heap.size w0 wr by (repeat' (first | (with_reducible exact Below.refl _ _) | (with_reducible assumption) | (with_reducible refine below_drewN ?_ _) | (with_reducible refine Below.alloc ?_ ?_ _) | (with_reducible refine Below.drew ?_) | (with_reducible refine Below.setCell ?_ ?_ _) | go_size))).trans (hb5.mono (by omega))
            have hW_w5 : Below w.heap.size w w5 := by exact (show Below w.heap.size w wr by (repeat' (first | (with_reducible exact Below.refl _ _) | (with_reducible assumption) | (with_reducible refine below_drewN ?_ _) | (with_reducible refine Below.alloc ?_ ?_ _) | (with_reducible refine Below.drew ?_) | (with_reducible refine Below.setCell ?_ ?_ _) | go_size))).trans (hb5.mono (by omega))
            have y_w5 := HOC.out _ hB_w5 k hlt
            rw [HO.out] at y_w5
            go_wp2_with fail
            go_quiet (fail)
            go_wp2_with fail
            go_ret
            have hfin := hW_w5
            exact ⟨ret_bool (shape_no hlt F.out).symm, by (repeat' (first | (with_reducible exact Below.refl _ _) | (with_reducible assumption) | (with_reducible refine below_drewN ?_ _) | (with_reducible refine Below.alloc ?_ ?_ _) | (with_reducible refine Below.drew ?_) | (with_reducible refine Below.setCell ?_ ?_ _) | go_size))⟩
      · have n18 : (i.op != 18) = false := by unfold bne; rw [q18]; rfl
        have h18 : i.op = 18 := by simpa using q18
        have ht' : t = -1 := by rw [← HT.out]; unfold targetV leadsB; simp [h18]
        have SB : Hid (shapeAt n C k = (decide (0 ≤ endV n C k) && decide (endV n C k ≤ mostV n C k))) := by show _ = _; rw [SA.out, if_pos h18]
        subst ht'
        clear h18
        obtain ⟨x, hx⟩ : ∃ x, endV n C k = x := ⟨_, rfl⟩
        have HXE := Lib.hid hx
        have hex := end_lt n C k
        rw [hx] at hex
        clear hx
        by_cases ho0 : 0 ≤ o
        · have f1 : decide (0 ≤ o) = true := decide_eq_true ho0
          obtain ⟨q, hq0, hq1, hq2, hq3⟩ := own_in (n := n) (C := C) (k := k) (by rw [HO.out]; exact ho0)
          have hmost : mostV n C k = endV n C q := by unfold mostV; rw [hq0, if_pos (by omega), Int.toNat_natCast]
          rw [HO.out] at hq0
          subst hq0
          obtain ⟨m, hm⟩ : ∃ m, endV n C q = m := ⟨_, rfl⟩
          have HQE := Lib.hid hm
          have HMO : Hid (mostV n C k = m) := by show _ = _; rw [hmost, hm]
          clear hq3 hm hmost
          have y_wr := HOC.out _ hb0 k hlt
          rw [HO.out] at y_wr
          by_cases hx0 : x < 0
          · have f3 : decide (x < 0) = true := decide_eq_true hx0
            have F : Hid (shapeAt n C k = false) := by show _ = _; rw [SB.out, HXE.out, decide_eq_false (by omega)]; rfl
            go_wp2_with fail
            (with_reducible refine (end_any (k := q) hC ?_ hS hq1 hn).mono ?_)
            · (repeat' (first | (with_reducible exact Below.refl _ _) | (with_reducible assumption) | (with_reducible refine below_drewN ?_ _) | (with_reducible refine Below.alloc ?_ ?_ _) | (with_reducible refine Below.drew ?_) | (with_reducible refine Below.setCell ?_ ?_ _) | go_size))
            rw [HQE.out]
            rintro e w3 ⟨rfl, hb3⟩
            have hB_w3 : Below w0.heap.size w0 w3 := by exact (show Below w0.heap.size w0 wr by (repeat' (first | (with_reducible exact Below.refl _ _) | (with_reducible assumption) | (with_reducible refine below_drewN ?_ _) | (with_reducible refine Below.alloc ?_ ?_ _) | (with_reducible refine Below.drew ?_) | (with_reducible refine Below.setCell ?_ ?_ _) | go_size))).trans (hb3.mono (by omega))
            have hW_w3 : Below w.heap.size w w3 := by exact (show Below w.heap.size w wr by (repeat' (first | (with_reducible exact Below.refl _ _) | (with_reducible assumption) | (with_reducible refine below_drewN ?_ _) | (with_reducible refine Below.alloc ?_ ?_ _) | (with_reducible refine Below.drew ?_) | (with_reducible refine Below.setCell ?_ ?_ _) | go_size))).trans (hb3.mono (by omega))
            have y_w3 := HOC.out _ hB_w3 k hlt
            obtain ⟨_, _, e_w3, _, i0_w3, i1_w3, i2_w3⟩ := hC.at_ hB_w3 hlt
            cases e_w3
            rw [HI.out] at i0_w3 i1_w3 i2_w3
            go_wp2_with fail
            (with_reducible refine (end_any hC ?_ hS hlt hn).mono ?_)
            · (repeat' (first | (with_reducible exact Below.refl _ _) | (with_reducible assumption) | (with_reducible refine below_drewN ?_ _) | (with_reducible refine Below.alloc ?_ ?_ _) | (with_reducible refine Below.drew ?_) | (with_reducible refine Below.setCell ?_ ?_ _) | go_size))
            rw [HXE.out]
            rintro e w4 ⟨rfl, hb4⟩
            have hB_w4 : Below w0.heap.size w0 w4 := by exact hB_w3.trans (hb4.mono hB_w3.size)
            have hW_w4 : Below w.heap.size w w4 := by exact hW_w3.trans (hb4.mono hW_w3.size)
            have y_w4 := HOC.out _ hB_w4 k hlt
            obtain ⟨_, _, e_w4, _, i0_w4, i1_w4, i2_w4⟩ := hC.at_ hB_w4 hlt
            cases e_w4
            rw [HI.out] at i0_w4 i1_w4 i2_w4
            go_wp2_with fail
            go_ret
            have hfin := hW_w4
            exact ⟨ret_bool (shape_no hlt F.out).symm, by (repeat' (first | (with_reducible exact Below.refl _ _) | (with_reducible assumption) | (with_reducible refine below_drewN ?_ _) | (with_reducible refine Below.alloc ?_ ?_ _) | (with_reducible refine Below.drew ?_) | (with_reducible refine Below.setCell ?_ ?_ _) | go_size))⟩
          · have f3 : decide (x < 0) = false := decide_eq_false hx0
            by_cases hxm : x ≤ m
            · have f2 : decide (m < x) = false := decide_eq_false (by omega)
              have F : Hid (shapeAt n C k = true) := by show _ = _; rw [SB.out, HXE.out, HMO.out, decide_eq_true (by omega), decide_eq_true hxm]; rfl
              go_wp2_with fail
              (with_reducible refine (end_any (k := q) hC ?_ hS hq1 hn).mono ?_)
              · (repeat' (first | (with_reducible exact Below.refl _ _) | (with_reducible assumption) | (with_reducible refine below_drewN ?_ _) | (with_reducible refine Below.alloc ?_ ?_ _) | (with_reducible refine Below.drew ?_) | (with_reducible refine Below.setCell ?_ ?_ _) | go_size))
              rw [HQE.out]
              rintro e w3 ⟨rfl, hb3⟩
              have hB_w3 : Below w0.heap.size w0 w3 := by exact (show Below w0.heap.size w0 wr by (repeat' (first | (with_reducible exact Below.refl _ _) | (with_reducible assumption) | (with_reducible refine below_drewN ?_ _) | (with_reducible refine Below.alloc ?_ ?_ _) | (with_reducible refine Below.drew ?_) | (with_reducible refine Below.setCell ?_ ?_ _) | go_size))).trans (hb3.mono (by omega))
              have hW_w3 : Below w.heap.size w w3 := by exact (show Below w.heap.size w wr by (repeat' (first | (with_reducible exact Below.refl _ _) | (with_reducible assumption) | (with_reducible refine below_drewN ?_ _) | (with_reducible refine Below.alloc ?_ ?_ _) | (with_reducible refine Below.drew ?_) | (with_reducible refine Below.setCell ?_ ?_ _) | go_size))).trans (hb3.mono (by omega))
              have y_w3 := HOC.out _ hB_w3 k hlt
              obtain ⟨_, _, e_w3, _, i0_w3, i1_w3, i2_w3⟩ := hC.at_ hB_w3 hlt
              cases e_w3
              rw [HI.out] at i0_w3 i1_w3 i2_w3
              go_wp2_with fail
              (with_reducible refine (end_any hC ?_ hS hlt hn).mono ?_)
              · (repeat' (first | (with_reducible exact Below.refl _ _) | (with_reducible assumption) | (with_reducible refine below_drewN ?_ _) | (with_reducible refine Below.alloc ?_ ?_ _) | (with_reducible refine Below.drew ?_) | (with_reducible refine Below.setCell ?_ ?_ _) | go_size))
              rw [HXE.out]
              rintro e w4 ⟨rfl, hb4⟩
              have hB_w4 : Below w0.heap.size w0 w4 := by exact hB_w3.trans (hb4.mono hB_w3.size)
              have hW_w4 : Below w.heap.size w w4 := by exact hW_w3.trans (hb4.mono hW_w3.size)
              have y_w4 := HOC.out _ hB_w4 k hlt
              obtain ⟨_, _, e_w4, _, i0_w4, i1_w4, i2_w4⟩ := hC.at_ hB_w4 hlt
              cases e_w4
              rw [HI.out] at i0_w4 i1_w4 i2_w4
              go_wp2_with fail
              (with_reducible refine (rtarget_any _ _ _ _ s1 s2 s3 s4).mono ?_)
              rw [HT.out]
              rintro e w5 ⟨rfl, hb5⟩
              have HK : Hid (Inv w0 w w w5) := ⟨hB_w4.trans (hb5.mono hB_w4.size), hW_w4.trans (hb5.mono hW_w4.size), hW_w4.trans (hb5.mono hW_w4.size)⟩
              go_wp2_with fail
              go_quiet (fail)
              go_wp2_with fail
              go_roundw
              case rel => exact ⟨k + 1, by omega, by go_num, fun j hj => (by
                  rcases Nat.lt_or_ge j k with h | h
                  · exact HALL.out j h
                  · obtain rfl : j = k := by omega
                    exact F.out), HK.out.go (by (repeat' (first | (with_reducible exact Below.refl _ _) | (with_reducible assumption) | (with_reducible refine below_drewN ?_ _) | (with_reducible refine Below.alloc ?_ ?_ _) | (with_reducible refine Below.drew ?_) | (with_reducible refine Below.setCell ?_ ?_ _) | go_size)))⟩
              case measure => simp [intOf]; omega
            · have f2 : decide (m < x) = true := decide_eq_true (by omega)
              have F : Hid (shapeAt n C k = false) := by show _ = _; rw [SB.out, HXE.out, HMO.out, decide_eq_false hxm]; simp
              go_wp2_with fail
              (with_reducible refine (end_any (k := q) hC ?_ hS hq1 hn).mono ?_)
              · (repeat' (first | (with_reducible exact Below.refl _ _) | (with_reducible assumption) | (with_reducible refine below_drewN ?_ _) | (with_reducible refine Below.alloc ?_ ?_ _) | (with_reducible refine Below.drew ?_) | (with_reducible refine Below.setCell ?_ ?_ _) | go_size))
              rw [HQE.out]
              rintro e w3 ⟨rfl, hb3⟩
              have hB_w3 : Below w0.heap.size w0 w3 := by exact (show Below w0.heap.size w0 wr by (repeat' (first | (with_reducible exact Below.refl _ _) | (with_reducible assumption) | (with_reducible refine below_drewN ?_ _) | (with_reducible refine Below.alloc ?_ ?_ _) | (with_reducible refine Below.drew ?_) | (with_reducible refine Below.setCell ?_ ?_ _) | go_size))).trans (hb3.mono (by omega))
              have hW_w3 : Below w.heap.size w w3 := by exact (show Below w.heap.size w wr by (repeat' (first | (with_reducible exact Below.refl _ _) | (with_reducible assumption) | (with_reducible refine below_drewN ?_ _) | (with_reducible refine Below.alloc ?_ ?_ _) | (with_reducible refine Below.drew ?_) | (with_reducible refine Below.setCell ?_ ?_ _) | go_size))).trans (hb3.mono (by omega))
              have y_w3 := HOC.out _ hB_w3 k hlt
              obtain ⟨_, _, e_w3, _, i0_w3, i1_w3, i2_w3⟩ := hC.at_ hB_w3 hlt
              cases e_w3
              rw [HI.out] at i0_w3 i1_w3 i2_w3
              go_wp2_with fail
              (with_reducible refine (end_any hC ?_ hS hlt hn).mono ?_)
              · (repeat' (first | (with_reducible exact Below.refl _ _) | (with_reducible assumption) | (with_reducible refine below_drewN ?_ _) | (with_reducible refine Below.alloc ?_ ?_ _) | (with_reducible refine Below.drew ?_) | (with_reducible refine Below.setCell ?_ ?_ _) | go_size))
              rw [HXE.out]
              rintro e w4 ⟨rfl, hb4⟩
              have hB_w4 : Below w0.heap.size w0 w4 := by exact hB_w3.trans (hb4.mono hB_w3.size)
              have hW_w4 : Below w.heap.size w w4 := by exact hW_w3.trans (hb4.mono hW_w3.size)
              have y_w4 := HOC.out _ hB_w4 k hlt
              obtain ⟨_, _, e_w4, _, i0_w4, i1_w4, i2_w4⟩ := hC.at_ hB_w4 hlt
              cases e_w4
              rw [HI.out] at i0_w4 i1_w4 i2_w4
              go_wp2_with fail
              go_ret
              have hfin := hW_w4
              exact ⟨ret_bool (shape_no hlt F.out).symm, by (repeat' (first | (with_reducible exact Below.refl _ _) | (with_reducible assumption) | (with_reducible refine below_drewN ?_ _) | (with_reducible refine Below.alloc ?_ ?_ _) | (with_reducible refine Below.drew ?_) | (with_reducible refine Below.setCell ?_ ?_ _) | go_size))⟩
        · have f1 : decide (0 ≤ o) = false := decide_eq_false ho0
          have HMO : Hid (mostV n C k = n) := by show _ = _; unfold mostV; rw [HO.out, if_neg ho0]
          have y_wr := HOC.out _ hb0 k hlt
          rw [HO.out] at y_wr
          by_cases hx0 : x < 0
          · have f3 : decide (x < 0) = true := decide_eq_true hx0
            have F : Hid (shapeAt n C k = false) := by show _ = _; rw [SB.out, HXE.out, decide_eq_false (by omega)]; rfl
            go_wp2_with fail
            (with_reducible refine (end_any hC ?_ hS hlt hn).mono ?_)
            · (repeat' (first | (with_reducible exact Below.refl _ _) | (with_reducible assumption) | (with_reducible refine below_drewN ?_ _) | (with_reducible refine Below.alloc ?_ ?_ _) | (with_reducible refine Below.drew ?_) | (with_reducible refine Below.setCell ?_ ?_ _) | go_size))
            rw [HXE.out]
            rintro e w3 ⟨rfl, hb3⟩
            have hB_w3 : Below w0.heap.size w0 w3 := by exact (show Below w0.heap.size w0 wr by (repeat' (first | (with_reducible exact Below.refl _ _) | (with_reducible assumption) | (with_reducible refine below_drewN ?_ _) | (with_reducible refine Below.alloc ?_ ?_ _) | (with_reducible refine Below.drew ?_) | (with_reducible refine Below.setCell ?_ ?_ _) | go_size))).trans (hb3.mono (by omega))
            have hW_w3 : Below w.heap.size w w3 := by exact (show Below w.heap.size w wr by (repeat' (first | (with_reducible exact Below.refl _ _) | (with_reducible assumption) | (with_reducible refine below_drewN ?_ _) | (with_reducible refine Below.alloc ?_ ?_ _) | (with_reducible refine Below.drew ?_) | (with_reducible refine Below.setCell ?_ ?_ _) | go_size))).trans (hb3.mono (by omega))
            have y_w3 := HOC.out _ hB_w3 k hlt
            obtain ⟨_, _, e_w3, _, i0_w3, i1_w3, i2_w3⟩ := hC.at_ hB_w3 hlt
            cases e_w3
            rw [HI.out] at i0_w3 i1_w3 i2_w3
            go_wp2_with fail
            go_ret
            have hfin := hW_w3
            exact ⟨ret_bool (shape_no hlt F.out).symm, by (repeat' (first | (with_reducible exact Below.refl _ _) | (with_reducible assumption) | (with_reducible refine below_drewN ?_ _) | (with_reducible refine Below.alloc ?_ ?_ _) | (with_reducible refine Below.drew ?_) | (with_reducible refine Below.setCell ?_ ?_ _) | go_size))⟩
          · have f3 : decide (x < 0) = false := decide_eq_false hx0
            by_cases hxm : x ≤ n
            · have f2 : decide ((n : Int) < x) = false := decide_eq_false (by omega)
              have F : Hid (shapeAt n C k = true) := by show _ = _; rw [SB.out, HXE.out, HMO.out, decide_eq_true (by omega), decide_eq_true hxm]; rfl
              go_wp2_with fail
              (with_reducible refine (end_any hC ?_ hS hlt hn).mono ?_)
              · (repeat' (first | (with_reducible exact Below.refl _ _) | (with_reducible assumption) | (with_reducible refine below_drewN ?_ _) | (with_reducible refine Below.alloc ?_ ?_ _) | (with_reducible refine Below.drew ?_) | (with_reducible refine Below.setCell ?_ ?_ _) | go_size))
              rw [HXE.out]
              rintro e w3 ⟨rfl, hb3⟩
              have hB_w3 : Below w0.heap.size w0 w3 := by exact (show Below w0.heap.size w0 wr by (repeat' (first | (with_reducible exact Below.refl _ _) | (with_reducible assumption) | (with_reducible refine below_drewN ?_ _) | (with_reducible refine Below.alloc ?_ ?_ _) | (with_reducible refine Below.drew ?_) | (with_reducible refine Below.setCell ?_ ?_ _) | go_size))).trans (hb3.mono (by omega))
              have hW_w3 : Below w.heap.size w w3 := by exact (show Below w.heap.size w wr by (repeat' (first | (with_reducible exact Below.refl _ _) | (with_reducible assumption) | (with_reducible refine below_drewN ?_ _) | (with_reducible refine Below.alloc ?_ ?_ _) | (with_reducible refine Below.drew ?_) | (with_reducible refine Below.setCell ?_ ?_ _) | go_size))).trans (hb3.mono (by omega))
              have y_w3 := HOC.out _ hB_w3 k hlt
              obtain ⟨_, _, e_w3, _, i0_w3, i1_w3, i2_w3⟩ := hC.at_ hB_w3 hlt
              cases e_w3
              rw [HI.out] at i0_w3 i1_w3 i2_w3
              go_wp2_with fail
              (with_reducible refine (rtarget_any _ _ _ _ s1 s2 s3 s4).mono ?_)
              rw [HT.out]
              rintro e w5 ⟨rfl, hb5⟩
              have HK : Hid (Inv w0 w w w5) := ⟨hB_w3.trans (hb5.mono hB_w3.size), hW_w3.trans (hb5.mono hW_w3.size), hW_w3.trans (hb5.mono hW_w3.size)⟩
              go_wp2_with fail
              go_quiet (fail)
              go_wp2_with fail
              go_roundw
              case rel => exact ⟨k + 1, by omega, by go_num, fun j hj => (by
                  rcases Nat.lt_or_ge j k with h | h
                  · exact HALL.out j h
                  · obtain rfl : j = k := by omega
                    exact F.out), HK.out.go (by (repeat' (first | (with_reducible exact Below.refl _ _) | (with_reducible assumption) | (with_reducible refine below_drewN ?_ _) | (with_reducible refine Below.alloc ?_ ?_ _) | (with_reducible refine Below.drew ?_) | (with_reducible refine Below.setCell ?_ ?_ _) | go_size)))⟩
              case measure => simp [intOf]; omega
            · have f2 : decide ((n : Int) < x) = true := decide_eq_true (by omega)
              have F : Hid (shapeAt n C k = false) := by show _ = _; rw [SB.out, HXE.out, HMO.out, decide_eq_false hxm]; simp
              go_wp2_with fail
              (with_reducible refine (end_any hC ?_ hS hlt hn).mono ?_)
              · (repeat' (first | (with_reducible exact Below.refl _ _) | (with_reducible assumption) | (with_reducible refine below_drewN ?_ _) | (with_reducible refine Below.alloc ?_ ?_ _) | (with_reducible refine Below.drew ?_) | (with_reducible refine Below.setCell ?_ ?_ _) | go_size))
              rw [HXE.out]
              rintro e w3 ⟨rfl, hb3⟩
              have hB_w3 : Below w0.heap.size w0 w3 := by exact (show Below w0.heap.size w0 wr by (repeat' (first | (with_reducible exact Below.refl _ _) | (with_reducible assumption) | (with_reducible refine below_drewN ?_ _) | (with_reducible refine Below.alloc ?_ ?_ _) | (with_reducible refine Below.drew ?_) | (with_reducible refine Below.setCell ?_ ?_ _) | go_size))).trans (hb3.mono (by omega))
              have hW_w3 : Below w.heap.size w w3 := by exact (show Below w.heap.size w wr by (repeat' (first | (with_reducible exact Below.refl _ _) | (with_reducible assumption) | (with_reducible refine below_drewN ?_ _) | (with_reducible refine Below.alloc ?_ ?_ _) | (with_reducible refine Below.drew ?_) | (with_reducible refine Below.setCell ?_ ?_ _) | go_size))).trans (hb3.mono (by omega))
              have y_w3 := HOC.out _ hB_w3 k hlt
              obtain ⟨_, _, e_w3, _, i0_w3, i1_w3, i2_w3⟩ := hC.at_ hB_w3 hlt
              cases e_w3
              rw [HI.out] at i0_w3 i1_w3 i2_w3
              go_wp2_with fail
              go_ret
              have hfin := hW_w3
              exact ⟨ret_bool (shape_no hlt F.out).symm, by (repeat' (first | (with_reducible exact Below.refl _ _) | (with_reducible assumption) | (with_reducible refine below_drewN ?_ _) | (with_reducible refine Below.alloc ?_ ?_ _) | (with_reducible refine Below.drew ?_) | (with_reducible refine Below.setCell ?_ ?_ _) | go_size))⟩
    · have hkn : k = n := by omega
      have d1 : decide (k < n) = false := decide_eq_false hlt
      clear hlt
      subst hkn
      have F : Hid (shapeB k C = true) := shape_yes HALL.out
      go_wp2_with fail
      go_ret
      exact ⟨ret_bool F.out.symm, hI.bw⟩
end Go.Proofs.Ytnjfjebmkajpbaa

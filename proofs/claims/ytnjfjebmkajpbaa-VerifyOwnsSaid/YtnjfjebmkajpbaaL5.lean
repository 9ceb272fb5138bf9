/- Contracts: whether blocks lie within their owners. -/
import Derived.Test.YtnjfjebmkajpbaaL4
namespace Go.Proofs.Ytnjfjebmkajpbaa
open Go.ChangeShapes Go.WideShapes Go.ChangeAt Go.RowKit
set_option linter.unusedVariables false
set_option linter.unusedSimpArgs false

def mostV (n : Nat) (C : Nat → Ins) (k : Nat) : Int := if 0 ≤ ownV n C k then endV n C (ownV n C k).toNat else n
def shapeAt (n : Nat) (C : Nat → Ins) (k : Nat) : Bool :=
  if (C k).op = 18 then decide (0 ≤ endV n C k) && decide (endV n C k ≤ mostV n C k)
  else decide (targetV (C k) < 0) || (decide (targetV (C k) < n) && decide (ownV n C (targetV (C k)).toNat = ownV n C k))
def shapeB (n : Nat) (C : Nat → Ins) : Bool := (List.range n).all (shapeAt n C)
theorem shape_no {n : Nat} {C : Nat → Ins} {k : Nat} (hk : k < n) (h : shapeAt n C k = false) : shapeB n C = false := by
  cases hs : shapeB n C
  · rfl
  · have := List.all_eq_true.1 hs k (List.mem_range.2 hk)
    rw [h] at this; cases this
theorem shape_yes {n : Nat} {C : Nat → Ins} (h : ∀ k, k < n → shapeAt n C k = true) : shapeB n C = true := List.all_eq_true.2 fun k hk => h k (List.mem_range.1 hk)
theorem shape_all {n : Nat} {C : Nat → Ins} (h : shapeB n C = true) {k : Nat} (hk : k < n) : shapeAt n C k = true := List.all_eq_true.1 h k (List.mem_range.2 hk)
theorem own_in {n : Nat} {C : Nat → Ins} {k : Nat} (h : 0 ≤ ownV n C k) : ∃ q : Nat, ownV n C k = (q : Int) ∧ q < n ∧ q + 2 ≤ k ∧ (k : Int) < endV n C q := by
  rcases ownK_range n C k n with h' | ⟨q, h1, h2, h3, h4⟩
  · unfold ownV at h; omega
  · exact ⟨q, h3, h1, h2, h4⟩
theorem insB_of {n : Nat} {C : Nat → Ins} {q : Nat} (h : 0 ≤ endV n C q) : insB n C q = true ∧ insT n C q = endV n C q := by
  rw [ins_end] at h ⊢
  cases hb : insB n C q
  · rw [hb] at h; simp at h
  · exact ⟨rfl, rfl⟩
theorem insB_pos {n : Nat} {C : Nat → Ins} {q : Nat} (h : insB n C q = true) : (q : Int) + 2 < insT n C q := by
  unfold insB at h
  simp only [Bool.and_eq_true, decide_eq_true_eq] at h
  unfold insT
  rw [if_pos h.1]; exact h.2
theorem row_int {w0 w : World} {p : Option Addr} {n k : Nat} {F : Nat → Int} (h : Row w0 p n 1 (fun i _ => .int .i64 (F i))) (hB : Below w0.heap.size w0 w) (hk : k < n) :
    ∃ b off, p = some ⟨b, off, none⟩ ∧ b < w0.heap.size ∧ w.cell? ⟨b, off + k, none⟩ = some (.int .i64 (F k)) := by
  obtain ⟨b, off, e, hlt, hc⟩ := h (by omega)
  have := (hB.cell (p := ⟨b, off + k * 1 + 0, none⟩) hlt).trans (hc k hk 0 (by omega))
  simp only [Nat.mul_one, Nat.add_zero] at this
  exact ⟨b, off, e, hlt, this⟩
set_option maxHeartbeats 8000000 in
theorem shape_any {w0 w : World} {p po : Option Addr} {n c co : Nat} {C : Nat → Ins} (hC : IsCode w0 p n C) (hO : Row w0 po n 1 (fun i _ => .int .i64 (ownV n C i))) (hB : Below w0.heap.size w0 w) (hS : Small n C) (hn : n ≤ 100000) :
    Calls Try.prog 23 #[.slice p n c, .slice po n co] w fun e w' => e = .returned (.bool (shapeB n C)) ∧ Below w.heap.size w w' := by
  have hI : Inv w0 w w w := Inv.start hB (Below.refl _ _)
  clear hB
  go_enter Try.func23, Try.ntmps23
  go_wp2_with fail
  go_loopw [13] (fun i wr => ∃ k : Nat, k ≤ n ∧ i = .int .i64 k ∧ (∀ j, j < k → shapeAt n C j = true) ∧ Inv w0 w w wr) (fun i _ => n - (intOf i).toNat)
  case atStart => exact ⟨0, Nat.zero_le _, rfl, fun j hj => absurd hj (by omega), hI⟩
  case round =>
    clear hI
    obtain ⟨k, hk, rfl, hall, hI⟩ := hrel
    have HALL := Lib.hid hall
    clear hall
    by_cases hlt : k < n
    · have d1 : decide (k < n) = true := decide_eq_true hlt
      obtain ⟨bb, off, rfl, hlt0, c0, c1, c2⟩ := hC.at_ hI.b0 hlt
      obtain ⟨b2, off2, e2, hlt2, v0⟩ := row_int hO hI.b0 hlt
      subst e2
      have HOC : Hid (∀ w', Below w0.heap.size w0 w' → ∀ j, j < n → w'.cell? ⟨b2, off2 + j, none⟩ = some (.int .i64 (ownV n C j))) := fun w' hb j hj => by
        obtain ⟨_, _, e, _, h⟩ := row_int hO hb hj
        cases e; exact h
      have hws := hI.b0.size
      have hwz := hI.bw.size
      have g0 : (0 : Int) ≤ (k : Int) := by omega
      have g1 : (k : Int) < (n : Int) := by omega
      obtain ⟨s1, s2, s3, s4⟩ := hS k hlt
      obtain ⟨i, hi⟩ : ∃ i, C k = i := ⟨_, rfl⟩
      have HI := Lib.hid hi
      rw [hi] at c0 c1 c2 s1 s2 s3 s4
      obtain ⟨t, ht⟩ : ∃ t, targetV ⟨i.op, i.a, i.b⟩ = t := ⟨_, rfl⟩
      have HT := Lib.hid ht
      have htb : -300000000 ≤ t ∧ t ≤ 300000000 := by rw [← ht]; unfold targetV; split <;> (try simp only) <;> omega
      obtain ⟨t1, t2⟩ := htb
      obtain ⟨o, ho⟩ : ∃ o, ownV n C k = o := ⟨_, rfl⟩
      have HO := Lib.hid ho
      have hb0 := hI.b0
      have hbw := hI.bw
      clear hi ho ht v0 hO
      have SA : Hid (shapeAt n C k = if i.op = 18 then decide (0 ≤ endV n C k) && decide (endV n C k ≤ mostV n C k) else decide (t < 0) || (decide (t < n) && decide (ownV n C t.toNat = o))) := by
        show _ = _
        unfold shapeAt
        rw [HI.out, HO.out, show targetV i = t from HT.out]
      cases q18 : i.op == 18
      · have n18 : (i.op != 18) = true := by unfold bne; rw [q18]; rfl
        have h18 : ¬ i.op = 18 := by simpa using q18
        have SB : Hid (shapeAt n C k = (decide (t < 0) || (decide (t < n) && decide (ownV n C t.toNat = o)))) := by show _ = _; rw [SA.out, if_neg h18]
        clear h18
        by_cases ht0 : t < 0
        · have f1 : decide (0 ≤ t) = false := decide_eq_false (by omega)
          have f2 : ¬ 0 ≤ t := by omega
          have F : Hid (shapeAt n C k = true) := by show _ = _; rw [SB.out, decide_eq_true ht0]; rfl
          go_wp2_with fail
          (with_reducible refine (target_any _ _ _ _ s1 s2 s3 s4).mono ?_)
          rw [HT.out]
          rintro e w5 ⟨rfl, hb5⟩
          have hB_w5 : Below w0.heap.size w0 w5 := by exact (show Below w0.heap.size w0 (wr.alloc (.cells #[.int .i64 i.op, .int .i64 i.a, .int .i64 i.b] 37)) by (repeat' (first | (with_reducible exact Below.refl _ _) | (with_reducible assumption) | (with_reducible refine below_drewN ?_ _) | (with_reducible refine Below.alloc ?_ ?_ _) | (with_reducible refine Below.drew ?_) | (with_reducible refine Below.setCell ?_ ?_ _) | go_size))).trans (hb5.mono (by simp; omega))
          have hW_w5 : Below w.heap.size w w5 := by exact (show Below w.heap.size w (wr.alloc (.cells #[.int .i64 i.op, .int .i64 i.a, .int .i64 i.b] 37)) by (repeat' (first | (with_reducible exact Below.refl _ _) | (with_reducible assumption) | (with_reducible refine below_drewN ?_ _) | (with_reducible refine Below.alloc ?_ ?_ _) | (with_reducible refine Below.drew ?_) | (with_reducible refine Below.setCell ?_ ?_ _) | go_size))).trans (hb5.mono (by simp; omega))
          have y_w5 := HOC.out _ hB_w5 k hlt
          rw [HO.out] at y_w5
          have HK : Hid (Inv w0 w w w5) := ⟨hB_w5, hW_w5, hW_w5⟩
          go_wp2_with fail
          go_quiet (fail)
          go_wp2_with fail
          go_roundw
          case rel => exact ⟨k + 1, by omega, by go_num, fun j hj => (by
              rcases Nat.lt_or_ge j k with h | h
              · exact HALL.out j h
              · obtain rfl : j = k := by omega
                exact F.out), HK.out.go (by (repeat' (first | (with_reducible exact Below.refl _ _) | (with_reducible assumption) | (with_reducible refine below_drewN ?_ _) | (with_reducible refine Below.alloc ?_ ?_ _) | (with_reducible refine Below.drew ?_) | (with_reducible refine Below.setCell ?_ ?_ _) | go_size)))⟩
          case measure => simp [intOf]; omega
        · have f1 : decide (0 ≤ t) = true := decide_eq_true (by omega)
          have f2 : 0 ≤ t := by omega
          by_cases htn : t < n
          · have f3 : decide ((n : Int) ≤ t) = false := decide_eq_false (by omega)
            obtain ⟨tn, rfl⟩ := Int.eq_ofNat_of_zero_le f2
            have htn' : tn < n := by omega
            have f4 : decide (n ≤ tn) = false := decide_eq_false (by omega)
            obtain ⟨o', ho'⟩ : ∃ o', ownV n C tn = o' := ⟨_, rfl⟩
            have HO' := Lib.hid ho'
            clear ho'
            by_cases hoo : o' = o
            · subst hoo
              have F : Hid (shapeAt n C k = true) := by show _ = _; rw [SB.out, Int.toNat_natCast, HO'.out, decide_eq_true htn]; simp
              go_wp2_with fail
              (with_reducible refine (target_any _ _ _ _ s1 s2 s3 s4).mono ?_)
              rw [HT.out]
              rintro e w5 ⟨rfl, hb5⟩
              have hB_w5 : Below w0.heap.size w0 w5 := by exact (show Below w0.heap.size w0 (wr.alloc (.cells #[.int .i64 i.op, .int .i64 i.a, .int .i64 i.b] 37)) by (repeat' (first | (with_reducible exact Below.refl _ _) | (with_reducible assumption) | (with_reducible refine below_drewN ?_ _) | (with_reducible refine Below.alloc ?_ ?_ _) | (with_reducible refine Below.drew ?_) | (with_reducible refine Below.setCell ?_ ?_ _) | go_size))).trans (hb5.mono (by simp; omega))
              have hW_w5 : Below w.heap.size w w5 := by exact (show Below w.heap.size w (wr.alloc (.cells #[.int .i64 i.op, .int .i64 i.a, .int .i64 i.b] 37)) by (repeat' (first | (with_reducible exact Below.refl _ _) | (with_reducible assumption) | (with_reducible refine below_drewN ?_ _) | (with_reducible refine Below.alloc ?_ ?_ _) | (with_reducible refine Below.drew ?_) | (with_reducible refine Below.setCell ?_ ?_ _) | go_size))).trans (hb5.mono (by simp; omega))
              have y_w5 := HOC.out _ hB_w5 k hlt
              rw [HO.out] at y_w5
              have z_w5 := HOC.out _ hB_w5 tn htn'
              rw [HO'.out] at z_w5
              have HK : Hid (Inv w0 w w w5) := ⟨hB_w5, hW_w5, hW_w5⟩
              go_wp2_with fail
              go_quiet (fail)
              go_wp2_with fail
              go_roundw
              case rel => exact ⟨k + 1, by omega, by go_num, fun j hj => (by
                  rcases Nat.lt_or_ge j k with h | h
                  · exact HALL.out j h
                  · obtain rfl : j = k := by omega
                    exact F.out), HK.out.go (by (repeat' (first | (with_reducible exact Below.refl _ _) | (with_reducible assumption) | (with_reducible refine below_drewN ?_ _) | (with_reducible refine Below.alloc ?_ ?_ _) | (with_reducible refine Below.drew ?_) | (with_reducible refine Below.setCell ?_ ?_ _) | go_size)))⟩
              case measure => simp [intOf]; omega
            · have n5 : (o' != o) = true := by simpa using hoo
              have F : Hid (shapeAt n C k = false) := by show _ = _; rw [SB.out, Int.toNat_natCast, HO'.out, decide_eq_false hoo, decide_eq_false ht0]; simp
              clear hoo
              go_wp2_with fail
              (with_reducible refine (target_any _ _ _ _ s1 s2 s3 s4).mono ?_)
              rw [HT.out]
              rintro e w5 ⟨rfl, hb5⟩
              have hB_w5 : Below w0.heap.size w0 w5 := by exact (show Below w0.heap.size w0 (wr.alloc (.cells #[.int .i64 i.op, .int .i64 i.a, .int .i64 i.b] 37)) by (repeat' (first | (with_reducible exact Below.refl _ _) | (with_reducible assumption) | (with_reducible refine below_drewN ?_ _) | (with_reducible refine Below.alloc ?_ ?_ _) | (with_reducible refine Below.drew ?_) | (with_reducible refine Below.setCell ?_ ?_ _) | go_size))).trans (hb5.mono (by simp; omega))
              have hW_w5 : Below w.heap.size w w5 := by exact (show Below w.heap.size w (wr.alloc (.cells #[.int .i64 i.op, .int .i64 i.a, .int .i64 i.b] 37)) by (repeat' (first | (with_reducible exact Below.refl _ _) | (with_reducible assumption) | (with_reducible refine below_drewN ?_ _) | (with_reducible refine Below.alloc ?_ ?_ _) | (with_reducible refine Below.drew ?_) | (with_reducible refine Below.setCell ?_ ?_ _) | go_size))).trans (hb5.mono (by simp; omega))
              have y_w5 := HOC.out _ hB_w5 k hlt
              rw [HO.out] at y_w5
              have z_w5 := HOC.out _ hB_w5 tn htn'
              rw [HO'.out] at z_w5
              go_wp2_with fail
              go_quiet (fail)
              go_wp2_with fail
              go_ret
              have hfin := hW_w5
              exact ⟨ret_bool (shape_no hlt F.out).symm, by (repeat' (first | (with_reducible exact Below.refl _ _) | (with_reducible assumption) | (with_reducible refine below_drewN ?_ _) | (with_reducible refine Below.alloc ?_ ?_ _) | (with_reducible refine Below.drew ?_) | (with_reducible refine Below.setCell ?_ ?_ _) | go_size))⟩
          · have f3 : decide ((n : Int) ≤ t) = true := decide_eq_true (by omega)
            have F : Hid (shapeAt n C k = false) := by show _ = _; rw [SB.out, decide_eq_false ht0, decide_eq_false htn]; rfl
            go_wp2_with fail
            (with_reducible refine (target_any _ _ _ _ s1 s2 s3 s4).mono ?_)
            rw [HT.out]
            rintro e w5 ⟨rfl, hb5⟩
            have hB_w5 : Below w0.heap.size w0 w5 := by exact (show Below w0.heap.size w0 (wr.alloc (.cells #[.int .i64 i.op, .int .i64 i.a, .int .i64 i.b] 37)) by (repeat' (first | (with_reducible exact Below.refl _ _) | (with_reducible assumption) | (with_reducible refine below_drewN ?_ _) | (with_reducible refine Below.alloc ?_ ?_ _) | (with_reducible refine Below.drew ?_) | (with_reducible refine Below.setCell ?_ ?_ _) | go_size))).trans (hb5.mono (by simp; omega))
            have hW_w5 : Below w.heap.size w w5 := by exact (show Below w.heap.size w (wr.alloc (.cells #[.int .i64 i.op, .int .i64 i.a, .int .i64 i.b] 37)) by (repeat' (first | (with_reducible exact Below.refl _ _) | (with_reducible assumption) | (with_reducible refine below_drewN ?_ _) | (with_reducible refine Below.alloc ?_ ?_ _) | (with_reducible refine Below.drew ?_) | (with_reducible refine Below.setCell ?_ ?_ _) | go_size))).trans (hb5.mono (by simp; omega))
            have y_w5 := HOC.out _ hB_w5 k hlt
            rw [HO.out] at y_w5
            go_wp2_with fail
            go_quiet (fail)
            go_wp2_with fail
            go_ret
            have hfin := hW_w5
            exact ⟨ret_bool (shape_no hlt F.out).symm, by (repeat' (first | (with_reducible exact Below.refl _ _) | (with_reducible assumption) | (with_reducible refine below_drewN ?_ _) | (with_reducible refine Below.alloc ?_ ?_ _) | (with_reducible refine Below.drew ?_) | (with_reducible refine Below.setCell ?_ ?_ _) | go_size))⟩
      · have n18 : (i.op != 18) = false := by unfold bne; rw [q18]; rfl
        have h18 : i.op = 18 := by simpa using q18
        have ht' : t = -1 := by rw [← HT.out]; unfold targetV leadsB; simp [h18]
        have SB : Hid (shapeAt n C k = (decide (0 ≤ endV n C k) && decide (endV n C k ≤ mostV n C k))) := by show _ = _; rw [SA.out, if_pos h18]
        subst ht'
        clear h18
        obtain ⟨x, hx⟩ : ∃ x, insT n C k = x := ⟨_, rfl⟩
        have HIT := Lib.hid hx
        have HE := Lib.hid (ins_end n C k)
        have hex := end_lt n C k
        clear hx
        cases hib : insB n C k
        · have HIB := Lib.hid hib
          have F : Hid (shapeAt n C k = false) := by show _ = _; rw [SB.out, HE.out, HIB.out]; rfl
          clear hib hex
          by_cases ho0 : 0 ≤ o
          · have f1 : decide (0 ≤ o) = true := decide_eq_true ho0
            obtain ⟨q, hq0, hq1, hq2, hq3⟩ := own_in (n := n) (C := C) (k := k) (by rw [HO.out]; exact ho0)
            obtain ⟨hqb, hqt⟩ := insB_of (n := n) (C := C) (q := q) (by omega)
            rw [HO.out] at hq0
            subst hq0
            have HQB := Lib.hid hqb
            have HQT : Hid (insT n C q = insT n C q) := rfl
            obtain ⟨m, hm⟩ : ∃ m, insT n C q = m := ⟨_, rfl⟩
            replace HQT := Lib.hid hm
            clear hqb hqt hq3 hm
            go_wp2_with fail
            (with_reducible refine (inside_any hC ?_ hS hlt hn).mono ?_)
            · (repeat' (first | (with_reducible exact Below.refl _ _) | (with_reducible assumption) | (with_reducible refine below_drewN ?_ _) | (with_reducible refine Below.alloc ?_ ?_ _) | (with_reducible refine Below.drew ?_) | (with_reducible refine Below.setCell ?_ ?_ _) | go_size))
            rw [HIT.out, HIB.out]
            rintro e w3 ⟨rfl, hb3⟩
            have hB_w3 : Below w0.heap.size w0 w3 := by exact (show Below w0.heap.size w0 (wr.alloc (.cells #[.int .i64 i.op, .int .i64 i.a, .int .i64 i.b] 37)) by (repeat' (first | (with_reducible exact Below.refl _ _) | (with_reducible assumption) | (with_reducible refine below_drewN ?_ _) | (with_reducible refine Below.alloc ?_ ?_ _) | (with_reducible refine Below.drew ?_) | (with_reducible refine Below.setCell ?_ ?_ _) | go_size))).trans (hb3.mono (by simp; omega))
            have hW_w3 : Below w.heap.size w w3 := by exact (show Below w.heap.size w (wr.alloc (.cells #[.int .i64 i.op, .int .i64 i.a, .int .i64 i.b] 37)) by (repeat' (first | (with_reducible exact Below.refl _ _) | (with_reducible assumption) | (with_reducible refine below_drewN ?_ _) | (with_reducible refine Below.alloc ?_ ?_ _) | (with_reducible refine Below.drew ?_) | (with_reducible refine Below.setCell ?_ ?_ _) | go_size))).trans (hb3.mono (by simp; omega))
            have y_w3 := HOC.out _ hB_w3 k hlt
            have i0_w3 : w3.cell? ⟨wr.heap.size, 0, none⟩ = some (.int .i64 i.op) := by rw [hb3.cell (p := ⟨wr.heap.size, _, none⟩) (by simp)]; simp [go_sem]
            have i1_w3 : w3.cell? ⟨wr.heap.size, 1, none⟩ = some (.int .i64 i.a) := by rw [hb3.cell (p := ⟨wr.heap.size, _, none⟩) (by simp)]; simp [go_sem]
            have i2_w3 : w3.cell? ⟨wr.heap.size, 2, none⟩ = some (.int .i64 i.b) := by rw [hb3.cell (p := ⟨wr.heap.size, _, none⟩) (by simp)]; simp [go_sem]
            rw [HO.out] at y_w3
            go_wp2_with fail
            (with_reducible refine (inside_any (k := q) hC ?_ hS hq1 hn).mono ?_)
            · (repeat' (first | (with_reducible exact Below.refl _ _) | (with_reducible assumption) | (with_reducible refine below_drewN ?_ _) | (with_reducible refine Below.alloc ?_ ?_ _) | (with_reducible refine Below.drew ?_) | (with_reducible refine Below.setCell ?_ ?_ _) | go_size))
            rw [HQT.out, HQB.out]
            rintro e w4 ⟨rfl, hb4⟩
            have hB_w4 : Below w0.heap.size w0 w4 := by exact hB_w3.trans (hb4.mono hB_w3.size)
            have hW_w4 : Below w.heap.size w w4 := by exact hW_w3.trans (hb4.mono hW_w3.size)
            have y_w4 := HOC.out _ hB_w4 k hlt
            have i0_w4 : w4.cell? ⟨wr.heap.size, 0, none⟩ = some (.int .i64 i.op) := by rw [hb4.cell (p := ⟨wr.heap.size, _, none⟩) (by have := hb3.size; simp at this; show wr.heap.size < _; omega)]; first | exact i0_w3 | exact i1_w3 | exact i2_w3
            have i1_w4 : w4.cell? ⟨wr.heap.size, 1, none⟩ = some (.int .i64 i.a) := by rw [hb4.cell (p := ⟨wr.heap.size, _, none⟩) (by have := hb3.size; simp at this; show wr.heap.size < _; omega)]; first | exact i0_w3 | exact i1_w3 | exact i2_w3
            have i2_w4 : w4.cell? ⟨wr.heap.size, 2, none⟩ = some (.int .i64 i.b) := by rw [hb4.cell (p := ⟨wr.heap.size, _, none⟩) (by have := hb3.size; simp at this; show wr.heap.size < _; omega)]; first | exact i0_w3 | exact i1_w3 | exact i2_w3
            go_wp2_with fail
            go_ret
            have hfin := hW_w4
            exact ⟨ret_bool (shape_no hlt F.out).symm, by (repeat' (first | (with_reducible exact Below.refl _ _) | (with_reducible assumption) | (with_reducible refine below_drewN ?_ _) | (with_reducible refine Below.alloc ?_ ?_ _) | (with_reducible refine Below.drew ?_) | (with_reducible refine Below.setCell ?_ ?_ _) | go_size))⟩
          · have f1 : decide (0 ≤ o) = false := decide_eq_false ho0
            go_wp2_with fail
            (with_reducible refine (inside_any hC ?_ hS hlt hn).mono ?_)
            · (repeat' (first | (with_reducible exact Below.refl _ _) | (with_reducible assumption) | (with_reducible refine below_drewN ?_ _) | (with_reducible refine Below.alloc ?_ ?_ _) | (with_reducible refine Below.drew ?_) | (with_reducible refine Below.setCell ?_ ?_ _) | go_size))
            rw [HIT.out, HIB.out]
            rintro e w3 ⟨rfl, hb3⟩
            have hB_w3 : Below w0.heap.size w0 w3 := by exact (show Below w0.heap.size w0 (wr.alloc (.cells #[.int .i64 i.op, .int .i64 i.a, .int .i64 i.b] 37)) by (repeat' (first | (with_reducible exact Below.refl _ _) | (with_reducible assumption) | (with_reducible refine below_drewN ?_ _) | (with_reducible refine Below.alloc ?_ ?_ _) | (with_reducible refine Below.drew ?_) | (with_reducible refine Below.setCell ?_ ?_ _) | go_size))).trans (hb3.mono (by simp; omega))
            have hW_w3 : Below w.heap.size w w3 := by exact (show Below w.heap.size w (wr.alloc (.cells #[.int .i64 i.op, .int .i64 i.a, .int .i64 i.b] 37)) by (repeat' (first | (with_reducible exact Below.refl _ _) | (with_reducible assumption) | (with_reducible refine below_drewN ?_ _) | (with_reducible refine Below.alloc ?_ ?_ _) | (with_reducible refine Below.drew ?_) | (with_reducible refine Below.setCell ?_ ?_ _) | go_size))).trans (hb3.mono (by simp; omega))
            have y_w3 := HOC.out _ hB_w3 k hlt
            have i0_w3 : w3.cell? ⟨wr.heap.size, 0, none⟩ = some (.int .i64 i.op) := by rw [hb3.cell (p := ⟨wr.heap.size, _, none⟩) (by simp)]; simp [go_sem]
            have i1_w3 : w3.cell? ⟨wr.heap.size, 1, none⟩ = some (.int .i64 i.a) := by rw [hb3.cell (p := ⟨wr.heap.size, _, none⟩) (by simp)]; simp [go_sem]
            have i2_w3 : w3.cell? ⟨wr.heap.size, 2, none⟩ = some (.int .i64 i.b) := by rw [hb3.cell (p := ⟨wr.heap.size, _, none⟩) (by simp)]; simp [go_sem]
            rw [HO.out] at y_w3
            go_wp2_with fail
            go_ret
            have hfin := hW_w3
            exact ⟨ret_bool (shape_no hlt F.out).symm, by (repeat' (first | (with_reducible exact Below.refl _ _) | (with_reducible assumption) | (with_reducible refine below_drewN ?_ _) | (with_reducible refine Below.alloc ?_ ?_ _) | (with_reducible refine Below.drew ?_) | (with_reducible refine Below.setCell ?_ ?_ _) | go_size))⟩
        · have HIB := Lib.hid hib
          have hxe : endV n C k = x := by rw [HE.out, HIB.out, HIT.out]; rfl
          have hx0 : 0 ≤ x := by have := insB_pos hib; have := HIT.out; omega
          have HXE := Lib.hid hxe
          clear hib hex hxe
          by_cases ho0 : 0 ≤ o
          · have f1 : decide (0 ≤ o) = true := decide_eq_true ho0
            obtain ⟨q, hq0, hq1, hq2, hq3⟩ := own_in (n := n) (C := C) (k := k) (by rw [HO.out]; exact ho0)
            obtain ⟨hqb, hqt⟩ := insB_of (n := n) (C := C) (q := q) (by omega)
            have hmost : mostV n C k = endV n C q := by unfold mostV; rw [hq0, if_pos (by omega), Int.toNat_natCast]
            rw [HO.out] at hq0
            subst hq0
            have HQB := Lib.hid hqb
            obtain ⟨m, hm⟩ : ∃ m, insT n C q = m := ⟨_, rfl⟩
            have HQT := Lib.hid hm
            have HMO : Hid (mostV n C k = m) := by show _ = _; rw [hmost, ← hqt, hm]
            clear hqb hqt hq3 hm hmost
            by_cases hxm : x ≤ m
            · have f2 : decide (m < x) = false := decide_eq_false (by omega)
              have F : Hid (shapeAt n C k = true) := by show _ = _; rw [SB.out, HXE.out, HMO.out, decide_eq_true hx0, decide_eq_true hxm]; rfl
              go_wp2_with fail
              (with_reducible refine (inside_any hC ?_ hS hlt hn).mono ?_)
              · (repeat' (first | (with_reducible exact Below.refl _ _) | (with_reducible assumption) | (with_reducible refine below_drewN ?_ _) | (with_reducible refine Below.alloc ?_ ?_ _) | (with_reducible refine Below.drew ?_) | (with_reducible refine Below.setCell ?_ ?_ _) | go_size))
              rw [HIT.out, HIB.out]
              rintro e w3 ⟨rfl, hb3⟩
              have hB_w3 : Below w0.heap.size w0 w3 := by exact (show Below w0.heap.size w0 (wr.alloc (.cells #[.int .i64 i.op, .int .i64 i.a, .int .i64 i.b] 37)) by (repeat' (first | (with_reducible exact Below.refl _ _) | (with_reducible assumption) | (with_reducible refine below_drewN ?_ _) | (with_reducible refine Below.alloc ?_ ?_ _) | (with_reducible refine Below.drew ?_) | (with_reducible refine Below.setCell ?_ ?_ _) | go_size))).trans (hb3.mono (by simp; omega))
              have hW_w3 : Below w.heap.size w w3 := by exact (show Below w.heap.size w (wr.alloc (.cells #[.int .i64 i.op, .int .i64 i.a, .int .i64 i.b] 37)) by (repeat' (first | (with_reducible exact Below.refl _ _) | (with_reducible assumption) | (with_reducible refine below_drewN ?_ _) | (with_reducible refine Below.alloc ?_ ?_ _) | (with_reducible refine Below.drew ?_) | (with_reducible refine Below.setCell ?_ ?_ _) | go_size))).trans (hb3.mono (by simp; omega))
              have y_w3 := HOC.out _ hB_w3 k hlt
              have i0_w3 : w3.cell? ⟨wr.heap.size, 0, none⟩ = some (.int .i64 i.op) := by rw [hb3.cell (p := ⟨wr.heap.size, _, none⟩) (by simp)]; simp [go_sem]
              have i1_w3 : w3.cell? ⟨wr.heap.size, 1, none⟩ = some (.int .i64 i.a) := by rw [hb3.cell (p := ⟨wr.heap.size, _, none⟩) (by simp)]; simp [go_sem]
              have i2_w3 : w3.cell? ⟨wr.heap.size, 2, none⟩ = some (.int .i64 i.b) := by rw [hb3.cell (p := ⟨wr.heap.size, _, none⟩) (by simp)]; simp [go_sem]
              rw [HO.out] at y_w3
              go_wp2_with fail
              (with_reducible refine (inside_any (k := q) hC ?_ hS hq1 hn).mono ?_)
              · (repeat' (first | (with_reducible exact Below.refl _ _) | (with_reducible assumption) | (with_reducible refine below_drewN ?_ _) | (with_reducible refine Below.alloc ?_ ?_ _) | (with_reducible refine Below.drew ?_) | (with_reducible refine Below.setCell ?_ ?_ _) | go_size))
              rw [HQT.out, HQB.out]
              rintro e w4 ⟨rfl, hb4⟩
              have hB_w4 : Below w0.heap.size w0 w4 := by exact hB_w3.trans (hb4.mono hB_w3.size)
              have hW_w4 : Below w.heap.size w w4 := by exact hW_w3.trans (hb4.mono hW_w3.size)
              have y_w4 := HOC.out _ hB_w4 k hlt
              have i0_w4 : w4.cell? ⟨wr.heap.size, 0, none⟩ = some (.int .i64 i.op) := by rw [hb4.cell (p := ⟨wr.heap.size, _, none⟩) (by have := hb3.size; simp at this; show wr.heap.size < _; omega)]; first | exact i0_w3 | exact i1_w3 | exact i2_w3
              have i1_w4 : w4.cell? ⟨wr.heap.size, 1, none⟩ = some (.int .i64 i.a) := by rw [hb4.cell (p := ⟨wr.heap.size, _, none⟩) (by have := hb3.size; simp at this; show wr.heap.size < _; omega)]; first | exact i0_w3 | exact i1_w3 | exact i2_w3
              have i2_w4 : w4.cell? ⟨wr.heap.size, 2, none⟩ = some (.int .i64 i.b) := by rw [hb4.cell (p := ⟨wr.heap.size, _, none⟩) (by have := hb3.size; simp at this; show wr.heap.size < _; omega)]; first | exact i0_w3 | exact i1_w3 | exact i2_w3
              go_wp2_with fail
              (with_reducible refine (target_any _ _ _ _ s1 s2 s3 s4).mono ?_)
              rw [HT.out]
              rintro e w5 ⟨rfl, hb5⟩
              have HK : Hid (Inv w0 w w w5) := ⟨hB_w4.trans (hb5.mono hB_w4.size), hW_w4.trans (hb5.mono hW_w4.size), hW_w4.trans (hb5.mono hW_w4.size)⟩
              go_wp2_with fail
              go_quiet (fail)
              go_wp2_with fail
              go_roundw
              case rel => exact ⟨k + 1, by omega, by go_num, fun j hj => (by
                  rcases Nat.lt_or_ge j k with h | h
                  · exact HALL.out j h
                  · obtain rfl : j = k := by omega
                    exact F.out), HK.out.go (by (repeat' (first | (with_reducible exact Below.refl _ _) | (with_reducible assumption) | (with_reducible refine below_drewN ?_ _) | (with_reducible refine Below.alloc ?_ ?_ _) | (with_reducible refine Below.drew ?_) | (with_reducible refine Below.setCell ?_ ?_ _) | go_size)))⟩
              case measure => simp [intOf]; omega
            · have f2 : decide (m < x) = true := decide_eq_true (by omega)
              have F : Hid (shapeAt n C k = false) := by show _ = _; rw [SB.out, HXE.out, HMO.out, decide_eq_false hxm]; simp
              go_wp2_with fail
              (with_reducible refine (inside_any hC ?_ hS hlt hn).mono ?_)
              · (repeat' (first | (with_reducible exact Below.refl _ _) | (with_reducible assumption) | (with_reducible refine below_drewN ?_ _) | (with_reducible refine Below.alloc ?_ ?_ _) | (with_reducible refine Below.drew ?_) | (with_reducible refine Below.setCell ?_ ?_ _) | go_size))
              rw [HIT.out, HIB.out]
              rintro e w3 ⟨rfl, hb3⟩
              have hB_w3 : Below w0.heap.size w0 w3 := by exact (show Below w0.heap.size w0 (wr.alloc (.cells #[.int .i64 i.op, .int .i64 i.a, .int .i64 i.b] 37)) by (repeat' (first | (with_reducible exact Below.refl _ _) | (with_reducible assumption) | (with_reducible refine below_drewN ?_ _) | (with_reducible refine Below.alloc ?_ ?_ _) | (with_reducible refine Below.drew ?_) | (with_reducible refine Below.setCell ?_ ?_ _) | go_size))).trans (hb3.mono (by simp; omega))
              have hW_w3 : Below w.heap.size w w3 := by exact (show Below w.heap.size w (wr.alloc (.cells #[.int .i64 i.op, .int .i64 i.a, .int .i64 i.b] 37)) by (repeat' (first | (with_reducible exact Below.refl _ _) | (with_reducible assumption) | (with_reducible refine below_drewN ?_ _) | (with_reducible refine Below.alloc ?_ ?_ _) | (with_reducible refine Below.drew ?_) | (with_reducible refine Below.setCell ?_ ?_ _) | go_size))).trans (hb3.mono (by simp; omega))
              have y_w3 := HOC.out _ hB_w3 k hlt
              have i0_w3 : w3.cell? ⟨wr.heap.size, 0, none⟩ = some (.int .i64 i.op) := by rw [hb3.cell (p := ⟨wr.heap.size, _, none⟩) (by simp)]; simp [go_sem]
              have i1_w3 : w3.cell? ⟨wr.heap.size, 1, none⟩ = some (.int .i64 i.a) := by rw [hb3.cell (p := ⟨wr.heap.size, _, none⟩) (by simp)]; simp [go_sem]
              have i2_w3 : w3.cell? ⟨wr.heap.size, 2, none⟩ = some (.int .i64 i.b) := by rw [hb3.cell (p := ⟨wr.heap.size, _, none⟩) (by simp)]; simp [go_sem]
              rw [HO.out] at y_w3
              go_wp2_with fail
              (with_reducible refine (inside_any (k := q) hC ?_ hS hq1 hn).mono ?_)
              · (repeat' (first | (with_reducible exact Below.refl _ _) | (with_reducible assumption) | (with_reducible refine below_drewN ?_ _) | (with_reducible refine Below.alloc ?_ ?_ _) | (with_reducible refine Below.drew ?_) | (with_reducible refine Below.setCell ?_ ?_ _) | go_size))
              rw [HQT.out, HQB.out]
              rintro e w4 ⟨rfl, hb4⟩
              have hB_w4 : Below w0.heap.size w0 w4 := by exact hB_w3.trans (hb4.mono hB_w3.size)
              have hW_w4 : Below w.heap.size w w4 := by exact hW_w3.trans (hb4.mono hW_w3.size)
              have y_w4 := HOC.out _ hB_w4 k hlt
              have i0_w4 : w4.cell? ⟨wr.heap.size, 0, none⟩ = some (.int .i64 i.op) := by rw [hb4.cell (p := ⟨wr.heap.size, _, none⟩) (by have := hb3.size; simp at this; show wr.heap.size < _; omega)]; first | exact i0_w3 | exact i1_w3 | exact i2_w3
              have i1_w4 : w4.cell? ⟨wr.heap.size, 1, none⟩ = some (.int .i64 i.a) := by rw [hb4.cell (p := ⟨wr.heap.size, _, none⟩) (by have := hb3.size; simp at this; show wr.heap.size < _; omega)]; first | exact i0_w3 | exact i1_w3 | exact i2_w3
              have i2_w4 : w4.cell? ⟨wr.heap.size, 2, none⟩ = some (.int .i64 i.b) := by rw [hb4.cell (p := ⟨wr.heap.size, _, none⟩) (by have := hb3.size; simp at this; show wr.heap.size < _; omega)]; first | exact i0_w3 | exact i1_w3 | exact i2_w3
              go_wp2_with fail
              go_ret
              have hfin := hW_w4
              exact ⟨ret_bool (shape_no hlt F.out).symm, by (repeat' (first | (with_reducible exact Below.refl _ _) | (with_reducible assumption) | (with_reducible refine below_drewN ?_ _) | (with_reducible refine Below.alloc ?_ ?_ _) | (with_reducible refine Below.drew ?_) | (with_reducible refine Below.setCell ?_ ?_ _) | go_size))⟩
          · have f1 : decide (0 ≤ o) = false := decide_eq_false ho0
            have HMO : Hid (mostV n C k = n) := by show _ = _; unfold mostV; rw [HO.out, if_neg ho0]
            by_cases hxm : x ≤ n
            · have f2 : decide ((n : Int) < x) = false := decide_eq_false (by omega)
              have F : Hid (shapeAt n C k = true) := by show _ = _; rw [SB.out, HXE.out, HMO.out, decide_eq_true hx0, decide_eq_true hxm]; rfl
              go_wp2_with fail
              (with_reducible refine (inside_any hC ?_ hS hlt hn).mono ?_)
              · (repeat' (first | (with_reducible exact Below.refl _ _) | (with_reducible assumption) | (with_reducible refine below_drewN ?_ _) | (with_reducible refine Below.alloc ?_ ?_ _) | (with_reducible refine Below.drew ?_) | (with_reducible refine Below.setCell ?_ ?_ _) | go_size))
              rw [HIT.out, HIB.out]
              rintro e w3 ⟨rfl, hb3⟩
              have hB_w3 : Below w0.heap.size w0 w3 := by exact (show Below w0.heap.size w0 (wr.alloc (.cells #[.int .i64 i.op, .int .i64 i.a, .int .i64 i.b] 37)) by (repeat' (first | (with_reducible exact Below.refl _ _) | (with_reducible assumption) | (with_reducible refine below_drewN ?_ _) | (with_reducible refine Below.alloc ?_ ?_ _) | (with_reducible refine Below.drew ?_) | (with_reducible refine Below.setCell ?_ ?_ _) | go_size))).trans (hb3.mono (by simp; omega))
              have hW_w3 : Below w.heap.size w w3 := by exact (show Below w.heap.size w (wr.alloc (.cells #[.int .i64 i.op, .int .i64 i.a, .int .i64 i.b] 37)) by (repeat' (first | (with_reducible exact Below.refl _ _) | (with_reducible assumption) | (with_reducible refine below_drewN ?_ _) | (with_reducible refine Below.alloc ?_ ?_ _) | (with_reducible refine Below.drew ?_) | (with_reducible refine Below.setCell ?_ ?_ _) | go_size))).trans (hb3.mono (by simp; omega))
              have y_w3 := HOC.out _ hB_w3 k hlt
              have i0_w3 : w3.cell? ⟨wr.heap.size, 0, none⟩ = some (.int .i64 i.op) := by rw [hb3.cell (p := ⟨wr.heap.size, _, none⟩) (by simp)]; simp [go_sem]
              have i1_w3 : w3.cell? ⟨wr.heap.size, 1, none⟩ = some (.int .i64 i.a) := by rw [hb3.cell (p := ⟨wr.heap.size, _, none⟩) (by simp)]; simp [go_sem]
              have i2_w3 : w3.cell? ⟨wr.heap.size, 2, none⟩ = some (.int .i64 i.b) := by rw [hb3.cell (p := ⟨wr.heap.size, _, none⟩) (by simp)]; simp [go_sem]
              rw [HO.out] at y_w3
              go_wp2_with fail
              (with_reducible refine (target_any _ _ _ _ s1 s2 s3 s4).mono ?_)
              rw [HT.out]
              rintro e w5 ⟨rfl, hb5⟩
              have HK : Hid (Inv w0 w w w5) := ⟨hB_w3.trans (hb5.mono hB_w3.size), hW_w3.trans (hb5.mono hW_w3.size), hW_w3.trans (hb5.mono hW_w3.size)⟩
              go_wp2_with fail
              go_quiet (fail)
              go_wp2_with fail
              go_roundw
              case rel => exact ⟨k + 1, by omega, by go_num, fun j hj => (by
                  rcases Nat.lt_or_ge j k with h | h
                  · exact HALL.out j h
                  · obtain rfl : j = k := by omega
                    exact F.out), HK.out.go (by (repeat' (first | (with_reducible exact Below.refl _ _) | (with_reducible assumption) | (with_reducible refine below_drewN ?_ _) | (with_reducible refine Below.alloc ?_ ?_ _) | (with_reducible refine Below.drew ?_) | (with_reducible refine Below.setCell ?_ ?_ _) | go_size)))⟩
              case measure => simp [intOf]; omega
            · have f2 : decide ((n : Int) < x) = true := decide_eq_true (by omega)
              have F : Hid (shapeAt n C k = false) := by show _ = _; rw [SB.out, HXE.out, HMO.out, decide_eq_false hxm]; simp
              go_wp2_with fail
              (with_reducible refine (inside_any hC ?_ hS hlt hn).mono ?_)
              · (repeat' (first | (with_reducible exact Below.refl _ _) | (with_reducible assumption) | (with_reducible refine below_drewN ?_ _) | (with_reducible refine Below.alloc ?_ ?_ _) | (with_reducible refine Below.drew ?_) | (with_reducible refine Below.setCell ?_ ?_ _) | go_size))
              rw [HIT.out, HIB.out]
              rintro e w3 ⟨rfl, hb3⟩
              have hB_w3 : Below w0.heap.size w0 w3 := by exact (show Below w0.heap.size w0 (wr.alloc (.cells #[.int .i64 i.op, .int .i64 i.a, .int .i64 i.b] 37)) by (repeat' (first | (with_reducible exact Below.refl _ _) | (with_reducible assumption) | (with_reducible refine below_drewN ?_ _) | (with_reducible refine Below.alloc ?_ ?_ _) | (with_reducible refine Below.drew ?_) | (with_reducible refine Below.setCell ?_ ?_ _) | go_size))).trans (hb3.mono (by simp; omega))
              have hW_w3 : Below w.heap.size w w3 := by exact (show Below w.heap.size w (wr.alloc (.cells #[.int .i64 i.op, .int .i64 i.a, .int .i64 i.b] 37)) by (repeat' (first | (with_reducible exact Below.refl _ _) | (with_reducible assumption) | (with_reducible refine below_drewN ?_ _) | (with_reducible refine Below.alloc ?_ ?_ _) | (with_reducible refine Below.drew ?_) | (with_reducible refine Below.setCell ?_ ?_ _) | go_size))).trans (hb3.mono (by simp; omega))
              have y_w3 := HOC.out _ hB_w3 k hlt
              have i0_w3 : w3.cell? ⟨wr.heap.size, 0, none⟩ = some (.int .i64 i.op) := by rw [hb3.cell (p := ⟨wr.heap.size, _, none⟩) (by simp)]; simp [go_sem]
              have i1_w3 : w3.cell? ⟨wr.heap.size, 1, none⟩ = some (.int .i64 i.a) := by rw [hb3.cell (p := ⟨wr.heap.size, _, none⟩) (by simp)]; simp [go_sem]
              have i2_w3 : w3.cell? ⟨wr.heap.size, 2, none⟩ = some (.int .i64 i.b) := by rw [hb3.cell (p := ⟨wr.heap.size, _, none⟩) (by simp)]; simp [go_sem]
              rw [HO.out] at y_w3
              go_wp2_with fail
              go_ret
              have hfin := hW_w3
              exact ⟨ret_bool (shape_no hlt F.out).symm, by (repeat' (first | (with_reducible exact Below.refl _ _) | (with_reducible assumption) | (with_reducible refine below_drewN ?_ _) | (with_reducible refine Below.alloc ?_ ?_ _) | (with_reducible refine Below.drew ?_) | (with_reducible refine Below.setCell ?_ ?_ _) | go_size))⟩
    · have hkn : k = n := by omega
      have d1 : decide (k < n) = false := decide_eq_false hlt
      clear hlt
      subst hkn
      have F : Hid (shapeB k C = true) := shape_yes HALL.out
      go_wp2_with fail
      go_ret
      exact ⟨ret_bool F.out.symm, hI.bw⟩
end Go.Proofs.Ytnjfjebmkajpbaa

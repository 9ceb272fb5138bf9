/- Contracts: the reference's literal. -/
import Derived.Test.YtnjfjebmkajpbaaK3
namespace Go.Proofs.Ytnjfjebmkajpbaa
open Go.ChangeShapes Go.WideShapes Go.ChangeAt Go.RowKit
set_option linter.unusedVariables false
set_option linter.unusedSimpArgs false

set_option maxHeartbeats 16000000 in
set_option maxRecDepth 100000 in
theorem rlit_1a0 (n : Int) (p : Option Addr) (c : Nat) (w : World) (deep : Int) (hx : ¬ -1152921504606846976 ≤ n) :
    Calls Try.prog 41 #[.agg #[.int .i64 1, .string ⟨#[]⟩, .int .i64 n, .slice p 0 c], .int .i64 deep] w fun e w' => e = .returned (.bool false) ∧ Below w.heap.size w w' := by
  have x1 : decide (-1152921504606846976 ≤ n) = false := decide_eq_false hx
  have x2 : ¬ n ≥ -1152921504606846976 := hx
  go_enter Try.func41, Try.ntmps41
  go_wp2
  go_ret
  exact ⟨ret_bool (by first | rfl | (simp; done) | (simp; omega)), by (repeat' (first | (with_reducible exact Below.refl _ _) | (with_reducible assumption) | (with_reducible refine below_drewN ?_ _) | (with_reducible refine Below.alloc ?_ ?_ _) | (with_reducible refine Below.drew ?_) | (with_reducible refine Below.setCell ?_ ?_ _) | go_size))⟩

set_option maxHeartbeats 16000000 in
set_option maxRecDepth 100000 in
theorem rlit_1a1 (n : Int) (p : Option Addr) (c : Nat) (w : World) (deep : Int) (hx : -1152921504606846976 ≤ n) :
    Calls Try.prog 41 #[.agg #[.int .i64 1, .string ⟨#[]⟩, .int .i64 n, .slice p 0 c], .int .i64 deep] w fun e w' => e = .returned (.bool (decide (n ≤ 1152921504606846976))) ∧ Below w.heap.size w w' := by
  have x1 : decide (-1152921504606846976 ≤ n) = true := decide_eq_true hx
  go_enter Try.func41, Try.ntmps41
  go_wp2
  go_ret
  exact ⟨ret_bool (by first | rfl | (simp; done) | (simp; omega)), by (repeat' (first | (with_reducible exact Below.refl _ _) | (with_reducible assumption) | (with_reducible refine below_drewN ?_ _) | (with_reducible refine Below.alloc ?_ ?_ _) | (with_reducible refine Below.drew ?_) | (with_reducible refine Below.setCell ?_ ?_ _) | go_size))⟩

theorem rlit_1a (n : Int) (p : Option Addr) (c : Nat) (w : World) (deep : Int) : Calls Try.prog 41 #[.agg #[.int .i64 1, .string ⟨#[]⟩, .int .i64 n, .slice p 0 c], .int .i64 deep] w fun e w' => e = .returned (.bool (inB n (-1152921504606846976) 1152921504606846976)) ∧ Below w.heap.size w w' := by
  by_cases hx : -1152921504606846976 ≤ n
  · have e : inB n (-1152921504606846976) 1152921504606846976 = decide (n ≤ 1152921504606846976) := by unfold inB; rw [decide_eq_true hx]; rfl
    rw [e]; exact rlit_1a1 n p c w deep hx
  · have e : inB n (-1152921504606846976) 1152921504606846976 = false := by unfold inB; rw [decide_eq_false hx]; rfl
    rw [e]; exact rlit_1a0 n p c w deep hx

set_option maxHeartbeats 16000000 in
set_option maxRecDepth 100000 in
theorem rlit_1b (n : Int)(m : Nat) (p : Option Addr) (c : Nat) (w : World) (deep : Int) (hm : m ≠ 0) :
    Calls Try.prog 41 #[.agg #[.int .i64 1, .string ⟨#[]⟩, .int .i64 n, .slice p m c], .int .i64 deep] w fun e w' => e = .returned (.bool false) ∧ Below w.heap.size w w' := by
  have m1 : ((m : Int) == 0) = false := by simp; omega
  have m2 : ¬ m = 0 := hm
  go_enter Try.func41, Try.ntmps41
  go_wp2
  go_ret
  exact ⟨ret_bool (by first | rfl | (simp; done) | (simp; omega)), by (repeat' (first | (with_reducible exact Below.refl _ _) | (with_reducible assumption) | (with_reducible refine below_drewN ?_ _) | (with_reducible refine Below.alloc ?_ ?_ _) | (with_reducible refine Below.drew ?_) | (with_reducible refine Below.setCell ?_ ?_ _) | go_size))⟩

set_option maxHeartbeats 16000000 in
set_option maxRecDepth 100000 in
theorem rlit_1c (s : ByteArray)(n : Int)(m : Nat) (p : Option Addr) (c : Nat) (w : World) (deep : Int) (hs0 : s.size ≠ 0) :
    Calls Try.prog 41 #[.agg #[.int .i64 1, .string s, .int .i64 n, .slice p m c], .int .i64 deep] w fun e w' => e = .returned (.bool false) ∧ Below w.heap.size w w' := by
  have s4 : ¬ s.toList = [] := fun h => by have := congrArg ByteArray.size ((toList_nil_iff_emptyBytes _).1 h); exact hs0 (by simpa using this)
  go_enter Try.func41, Try.ntmps41
  go_wp2
  go_ret
  exact ⟨ret_bool (by first | rfl | (simp; done) | (simp; omega)), by (repeat' (first | (with_reducible exact Below.refl _ _) | (with_reducible assumption) | (with_reducible refine below_drewN ?_ _) | (with_reducible refine Below.alloc ?_ ?_ _) | (with_reducible refine Below.drew ?_) | (with_reducible refine Below.setCell ?_ ?_ _) | go_size))⟩

set_option maxHeartbeats 16000000 in
set_option maxRecDepth 100000 in
theorem rlit_num (s : ByteArray) (n : Int) (m : Nat) (k : Int) (p : Option Addr) (c : Nat) (w : World) (deep : Int) (h1 : k ≠ 1) (hn : n ≠ 0) :
    Calls Try.prog 41 #[.agg #[.int .i64 k, .string s, .int .i64 n, .slice p m c], .int .i64 deep] w fun e w' => e = .returned (.bool false) ∧ Below w.heap.size w w' := by
  have d1 : (k == 1) = false := by simp; omega
  have n1 : (n == 0) = false := by simp; omega
  have n2 : (n != 0) = true := by simp; omega
  go_enter Try.func41, Try.ntmps41
  go_wp2
  go_ret
  exact ⟨rfl, by (repeat' (first | (with_reducible exact Below.refl _ _) | (with_reducible assumption) | (with_reducible refine below_drewN ?_ _) | (with_reducible refine Below.alloc ?_ ?_ _) | (with_reducible refine Below.drew ?_) | (with_reducible refine Below.setCell ?_ ?_ _) | go_size))⟩

set_option maxHeartbeats 16000000 in
set_option maxRecDepth 100000 in
theorem rlit_2a (s : ByteArray) (p : Option Addr) (c : Nat) (w : World) (deep : Int) (hs : s.size ≤ 9223372036854775807) :
    Calls Try.prog 41 #[.agg #[.int .i64 2, .string s, .int .i64 0, .slice p 0 c], .int .i64 deep] w fun e w' => e = .returned (.bool (decide (s.size ≤ 250))) ∧ Below w.heap.size w w' := by
  go_enter Try.func41, Try.ntmps41
  go_wp2
  go_ret
  exact ⟨ret_bool (by first | rfl | (simp; done) | (simp; omega)), by (repeat' (first | (with_reducible exact Below.refl _ _) | (with_reducible assumption) | (with_reducible refine below_drewN ?_ _) | (with_reducible refine Below.alloc ?_ ?_ _) | (with_reducible refine Below.drew ?_) | (with_reducible refine Below.setCell ?_ ?_ _) | go_size))⟩

set_option maxHeartbeats 16000000 in
set_option maxRecDepth 100000 in
theorem rlit_2b (s : ByteArray)(m : Nat) (p : Option Addr) (c : Nat) (w : World) (deep : Int) (hs : s.size ≤ 9223372036854775807)(hm : m ≠ 0) :
    Calls Try.prog 41 #[.agg #[.int .i64 2, .string s, .int .i64 0, .slice p m c], .int .i64 deep] w fun e w' => e = .returned (.bool false) ∧ Below w.heap.size w w' := by
  have m1 : ((m : Int) == 0) = false := by simp; omega
  have m2 : ¬ m = 0 := hm
  go_enter Try.func41, Try.ntmps41
  go_wp2
  go_ret
  exact ⟨ret_bool (by first | rfl | (simp; done) | (simp; omega)), by (repeat' (first | (with_reducible exact Below.refl _ _) | (with_reducible assumption) | (with_reducible refine below_drewN ?_ _) | (with_reducible refine Below.alloc ?_ ?_ _) | (with_reducible refine Below.drew ?_) | (with_reducible refine Below.setCell ?_ ?_ _) | go_size))⟩

set_option maxHeartbeats 16000000 in
set_option maxRecDepth 100000 in
theorem rlit_3a0 (s : ByteArray) (p : Option Addr) (c : Nat) (w : World) (deep : Int) (hs : s.size ≤ 9223372036854775807)(hx : ¬ 1 ≤ s.size) :
    Calls Try.prog 41 #[.agg #[.int .i64 3, .string s, .int .i64 0, .slice p 0 c], .int .i64 deep] w fun e w' => e = .returned (.bool false) ∧ Below w.heap.size w w' := by
  have x1 : decide (1 ≤ s.size) = false := decide_eq_false hx
  have x2 : decide ((1 : Int) ≤ (s.size : Int)) = false := decide_eq_false (by omega)
  have x3 : s.size = 0 := by omega
  go_enter Try.func41, Try.ntmps41
  go_wp2
  go_ret
  exact ⟨ret_bool (by first | rfl | (simp; done) | (simp; omega)), by (repeat' (first | (with_reducible exact Below.refl _ _) | (with_reducible assumption) | (with_reducible refine below_drewN ?_ _) | (with_reducible refine Below.alloc ?_ ?_ _) | (with_reducible refine Below.drew ?_) | (with_reducible refine Below.setCell ?_ ?_ _) | go_size))⟩

set_option maxHeartbeats 16000000 in
set_option maxRecDepth 100000 in
theorem rlit_3a1 (s : ByteArray) (p : Option Addr) (c : Nat) (w : World) (deep : Int) (hs : s.size ≤ 9223372036854775807)(hx : 1 ≤ s.size) :
    Calls Try.prog 41 #[.agg #[.int .i64 3, .string s, .int .i64 0, .slice p 0 c], .int .i64 deep] w fun e w' => e = .returned (.bool (decide (s.size ≤ 60))) ∧ Below w.heap.size w w' := by
  have x1 : decide (1 ≤ s.size) = true := decide_eq_true hx
  have x2 : decide ((1 : Int) ≤ (s.size : Int)) = true := decide_eq_true (by omega)
  go_enter Try.func41, Try.ntmps41
  go_wp2
  go_ret
  exact ⟨ret_bool (by first | rfl | (simp; done) | (simp; omega)), by (repeat' (first | (with_reducible exact Below.refl _ _) | (with_reducible assumption) | (with_reducible refine below_drewN ?_ _) | (with_reducible refine Below.alloc ?_ ?_ _) | (with_reducible refine Below.drew ?_) | (with_reducible refine Below.setCell ?_ ?_ _) | go_size))⟩

theorem rlit_3a (s : ByteArray) (p : Option Addr) (c : Nat) (w : World) (deep : Int) (hs : s.size ≤ 9223372036854775807) : Calls Try.prog 41 #[.agg #[.int .i64 3, .string s, .int .i64 0, .slice p 0 c], .int .i64 deep] w fun e w' => e = .returned (.bool (inB (s.size : Int) 1 60)) ∧ Below w.heap.size w w' := by
  by_cases hx : 1 ≤ s.size
  · have e : inB (s.size : Int) 1 60 = decide (s.size ≤ 60) := by unfold inB; rw [decide_eq_true (show (1 : Int) ≤ (s.size : Int) by omega), Bool.true_and, decide_eq_decide]; omega
    rw [e]; exact rlit_3a1 s p c w deep hs hx
  · have e : inB (s.size : Int) 1 60 = false := by unfold inB; rw [decide_eq_false (show ¬ (1 : Int) ≤ (s.size : Int) by omega)]; rfl
    rw [e]; exact rlit_3a0 s p c w deep hs hx

set_option maxHeartbeats 16000000 in
set_option maxRecDepth 100000 in
theorem rlit_3b (s : ByteArray)(m : Nat) (p : Option Addr) (c : Nat) (w : World) (deep : Int) (hs : s.size ≤ 9223372036854775807)(hm : m ≠ 0) :
    Calls Try.prog 41 #[.agg #[.int .i64 3, .string s, .int .i64 0, .slice p m c], .int .i64 deep] w fun e w' => e = .returned (.bool false) ∧ Below w.heap.size w w' := by
  have m1 : ((m : Int) == 0) = false := by simp; omega
  have m2 : ¬ m = 0 := hm
  go_enter Try.func41, Try.ntmps41
  go_wp2
  go_ret
  exact ⟨ret_bool (by first | rfl | (simp; done) | (simp; omega)), by (repeat' (first | (with_reducible exact Below.refl _ _) | (with_reducible assumption) | (with_reducible refine below_drewN ?_ _) | (with_reducible refine Below.alloc ?_ ?_ _) | (with_reducible refine Below.drew ?_) | (with_reducible refine Below.setCell ?_ ?_ _) | go_size))⟩

set_option maxHeartbeats 16000000 in
set_option maxRecDepth 100000 in
theorem rlit_odd (s : ByteArray) (m : Nat) (k : Int) (p : Option Addr) (c : Nat) (w : World) (deep : Int) (h1 : k ≠ 1) (h2 : k ≠ 2) (h3 : k ≠ 3) (h4 : k ≠ 4) :
    Calls Try.prog 41 #[.agg #[.int .i64 k, .string s, .int .i64 0, .slice p m c], .int .i64 deep] w fun e w' => e = .returned (.bool false) ∧ Below w.heap.size w w' := by
  have d1 : (k == 1) = false := by simp; omega
  have d2 : (k == 2) = false := by simp; omega
  have d3 : (k == 3) = false := by simp; omega
  have d4 : (k == 4) = false := by simp; omega
  have d5 : (k != 4) = true := by simp; omega
  go_enter Try.func41, Try.ntmps41
  go_wp2
  go_ret
  exact ⟨rfl, by (repeat' (first | (with_reducible exact Below.refl _ _) | (with_reducible assumption) | (with_reducible refine below_drewN ?_ _) | (with_reducible refine Below.alloc ?_ ?_ _) | (with_reducible refine Below.drew ?_) | (with_reducible refine Below.setCell ?_ ?_ _) | go_size))⟩

set_option maxHeartbeats 16000000 in
set_option maxRecDepth 100000 in
theorem rlit_4s (s : ByteArray)(m : Nat) (p : Option Addr) (c : Nat) (w : World) (deep : Int) (hc1 : m ≤ c) (hc2 : c ≤ 9223372036854775807)(hs0 : s.size ≠ 0) :
    Calls Try.prog 41 #[.agg #[.int .i64 4, .string s, .int .i64 0, .slice p m c], .int .i64 deep] w fun e w' => e = .returned (.bool false) ∧ Below w.heap.size w w' := by
  have s4 : ¬ s.toList = [] := fun h => by have := congrArg ByteArray.size ((toList_nil_iff_emptyBytes _).1 h); exact hs0 (by simpa using this)
  go_enter Try.func41, Try.ntmps41
  go_wp2
  go_ret
  exact ⟨ret_bool (by first | rfl | (simp; done) | (simp; omega)), by (repeat' (first | (with_reducible exact Below.refl _ _) | (with_reducible assumption) | (with_reducible refine below_drewN ?_ _) | (with_reducible refine Below.alloc ?_ ?_ _) | (with_reducible refine Below.drew ?_) | (with_reducible refine Below.setCell ?_ ?_ _) | go_size))⟩

set_option maxHeartbeats 16000000 in
set_option maxRecDepth 100000 in
theorem rlit_4d (m : Nat) (p : Option Addr) (c : Nat) (w : World) (hc1 : m ≤ c) (hc2 : c ≤ 9223372036854775807) :
    Calls Try.prog 41 #[.agg #[.int .i64 4, .string ⟨#[]⟩, .int .i64 0, .slice p m c], .int .i64 0] w fun e w' => e = .returned (.bool false) ∧ Below w.heap.size w w' := by
  go_enter Try.func41, Try.ntmps41
  go_wp2
  go_ret
  exact ⟨rfl, by (repeat' (first | (with_reducible exact Below.refl _ _) | (with_reducible assumption) | (with_reducible refine below_drewN ?_ _) | (with_reducible refine Below.alloc ?_ ?_ _) | (with_reducible refine Below.drew ?_) | (with_reducible refine Below.setCell ?_ ?_ _) | go_size))⟩

set_option maxHeartbeats 16000000 in
set_option maxRecDepth 100000 in
theorem rlit_4l (m : Nat) (p : Option Addr) (c : Nat) (w : World) (deep : Int) (hc1 : m ≤ c) (hc2 : c ≤ 9223372036854775807)(hd : deep ≠ 0) (hl : ¬ m ≤ 250) :
    Calls Try.prog 41 #[.agg #[.int .i64 4, .string ⟨#[]⟩, .int .i64 0, .slice p m c], .int .i64 deep] w fun e w' => e = .returned (.bool false) ∧ Below w.heap.size w w' := by
  have e0 : (deep == 0) = false := by simp; omega
  have l0 : decide (250 < (m : Int)) = true := decide_eq_true (by omega)
  have l2 : decide (250 < m) = true := decide_eq_true (by omega)
  go_enter Try.func41, Try.ntmps41
  go_wp2
  go_ret
  exact ⟨ret_bool (by first | rfl | (simp; done) | (simp; omega)), by (repeat' (first | (with_reducible exact Below.refl _ _) | (with_reducible assumption) | (with_reducible refine below_drewN ?_ _) | (with_reducible refine Below.alloc ?_ ?_ _) | (with_reducible refine Below.drew ?_) | (with_reducible refine Below.setCell ?_ ?_ _) | go_size))⟩

set_option maxHeartbeats 16000000 in
set_option maxRecDepth 100000 in
theorem rlit_4 {w0 : World} {F : Nat → Nat → Value} (ks : List LitT) (p : Option Addr) (c : Nat) (w : World) (deep : Int) (hc1 : ks.length ≤ c) (hc2 : c ≤ 9223372036854775807) (hd : 0 < deep) (hd2 : deep ≤ 20) (hl : ks.length ≤ 250) (hB : Below w0.heap.size w0 w) (hrow : Row w0 p ks.length 4 F) (hlit : ∀ (i : Nat) (h : i < ks.length), IsLit w0 ks[i] (F i))
    (hk : ∀ (i : Nat) (h : i < ks.length), ∀ w' : World, Below w0.heap.size w0 w' → Calls Try.prog 41 #[.agg #[F i 0, F i 1, F i 2, F i 3], .int .i64 (deep - 1)] w' fun e w'' => e = .returned (.bool (okL (deep - 1) ks[i])) ∧ Below w'.heap.size w' w'') :
    Calls Try.prog 41 #[.agg #[.int .i64 4, .string ⟨#[]⟩, .int .i64 0, .slice p ks.length c], .int .i64 deep] w fun e w' => e = .returned (.bool (ks.all (okL (deep - 1)))) ∧ Below w.heap.size w w' := by
  have HR := Lib.hid hrow
  have HT := Lib.hid (typed_lits hlit)
  have HK := Lib.hid hk
  have e0 : (deep == 0) = false := by simp; omega
  have l0 : decide (250 < (ks.length : Int)) = false := decide_eq_false (by omega)
  have l2 : decide (250 < ks.length) = false := decide_eq_false (by omega)
  have l3 : ¬ 250 < ks.length := by omega
  have hI0 : Inv w0 w (w.alloc (.cells #[.int .i64 4, .string ⟨#[]⟩, .int .i64 0, .slice p ks.length c] 42)) (w.alloc (.cells #[.int .i64 4, .string ⟨#[]⟩, .int .i64 0, .slice p ks.length c] 42)) := Inv.start hB ((Below.refl _ _).alloc (Nat.le_refl _) _)
  have HI0 := Lib.hid hI0
  clear hrow hlit hk hI0
  go_enter Try.func41, Try.ntmps41
  go_wp2_with fail
  go_loopw [5] (fun i wr => ∃ k : Nat, k ≤ ks.length ∧ i = .int .i64 k ∧ (∀ j, (h : j < ks.length) → j < k → okL (deep - 1) ks[j] = true) ∧ Inv w0 w (w.alloc (.cells #[.int .i64 4, .string ⟨#[]⟩, .int .i64 0, .slice p ks.length c] 42)) wr) (fun i _ => ks.length - (intOf i).toNat)
  case atStart => exact ⟨0, Nat.zero_le _, rfl, fun j _ hj => absurd hj (by omega), HI0.out⟩
  case round =>
    obtain ⟨k, hk, rfl, hall, hI⟩ := hrel
    have HALL := Lib.hid hall
    clear hall
    have hz : w.heap.size < (w.alloc (.cells #[.int .i64 4, .string ⟨#[]⟩, .int .i64 0, .slice p ks.length c] 42)).heap.size := by go_size
    have y0 : wr.cell? ⟨w.heap.size, 0, none⟩ = some (.int .i64 4) := (hI.cell w.heap.size 0 hz).trans (by simp [go_sem])
    have y1 : wr.cell? ⟨w.heap.size, 1, none⟩ = some (.string ⟨#[]⟩) := (hI.cell w.heap.size 1 hz).trans (by simp [go_sem])
    have y2 : wr.cell? ⟨w.heap.size, 2, none⟩ = some (.int .i64 0) := (hI.cell w.heap.size 2 hz).trans (by simp [go_sem])
    have y3 : wr.cell? ⟨w.heap.size, 3, none⟩ = some (.slice p ks.length c) := (hI.cell w.heap.size 3 hz).trans (by simp [go_sem])
    by_cases hlt : k < ks.length
    · have d1 : decide (k < ks.length) = true := decide_eq_true hlt
      obtain ⟨g, off, rfl, hgl, hc⟩ := HR.out (by omega)
      obtain ⟨x0, x1, x2, x3, x4, x5, e0', e1, e2, e3⟩ := HT.out k hlt
      have b0 := (hI.b0.cell (p := ⟨g, off + k * 4 + 0, none⟩) hgl).trans (hc k hlt 0 (by omega))
      have b1 := (hI.b0.cell (p := ⟨g, off + k * 4 + 1, none⟩) hgl).trans (hc k hlt 1 (by omega))
      have b2 := (hI.b0.cell (p := ⟨g, off + k * 4 + 2, none⟩) hgl).trans (hc k hlt 2 (by omega))
      have b3 := (hI.b0.cell (p := ⟨g, off + k * 4 + 3, none⟩) hgl).trans (hc k hlt 3 (by omega))
      rw [Nat.add_zero, e0'] at b0
      rw [e1] at b1
      rw [e2] at b2
      rw [e3] at b3
      have hcall := HK.out k hlt wr hI.b0
      rw [e0', e1, e2, e3] at hcall
      have HCALL := Lib.hid hcall
      clear hc hcall e0' e1 e2 e3
      have g0 : (0 : Int) ≤ (k : Int) := by omega
      have g1 : (k : Int) < (ks.length : Int) := by omega
      cases hq : okL (deep - 1) ks[k]
      · have HQ := Lib.hid hq
        clear hq
        go_wp2_with (go_at_call 41; (with_reducible refine HCALL.out.mono ?_); rw [HQ.out]; rintro e w3 ⟨rfl, hb3⟩)
        go_ret
        refine ⟨ret_bool ?_, (hI.go hb3).bw⟩
        symm
        rw [List.all_eq_false]
        exact ⟨ks[k], List.getElem_mem _, by rw [HQ.out]; simp⟩
      · have HQ := Lib.hid hq
        clear hq
        go_wp2_with (go_at_call 41; (with_reducible refine HCALL.out.mono ?_); rw [HQ.out]; rintro e w3 ⟨rfl, hb3⟩)
        go_roundw
        case rel => exact ⟨k + 1, by omega, by go_num, fun j hj hjk => (by
            rcases Nat.lt_or_ge j k with h | h
            · exact HALL.out j hj h
            · obtain rfl : j = k := by omega
              exact HQ.out), hI.go hb3⟩
        case measure => simp [intOf]; omega
    · have hkn : k = ks.length := by omega
      have d1 : decide (k < ks.length) = false := decide_eq_false hlt
      clear hlt
      subst hkn
      go_wp2_with fail
      go_ret
      refine ⟨ret_bool ?_, hI.bw⟩
      symm
      rw [List.all_eq_true]
      intro x hx
      obtain ⟨j, hj, rfl⟩ := List.mem_iff_getElem.1 hx
      exact HALL.out j hj hj

def RLitOk (w0 : World) (t : LitT) (f : Nat → Value) : Prop := ∀ (w : World) (deep : Int), Below w0.heap.size w0 w → deep ≤ 20 → 0 ≤ deep → Calls Try.prog 41 #[.agg #[f 0, f 1, f 2, f 3], .int .i64 deep] w fun e w' => e = .returned (.bool (okL deep t)) ∧ Below w.heap.size w w'
theorem rliteral_any {w0 : World} {t : LitT} {f : Nat → Value} (h : IsLit w0 t f) : RLitOk w0 t f := by
  induction h with
  | node k s n ks p c F f h0 h1 h2 h3 h4 h5 h6 h7 h8 ih =>
    intro w deep hB hd hh
    rw [h0, h1, h2, h3]
    by_cases k1 : k = 1
    · subst k1
      by_cases hs0 : s.size = 0
      · obtain rfl := size_zero hs0
        by_cases hk : ks.length = 0
        · rw [hk]
          refine (rlit_1a n p c w deep).mono (fun e w' ⟨a, b⟩ => ⟨?_, b⟩)
          rw [a]; refine ret_bool ?_; rw [okL_one rfl]
          show _ = ((⟨#[]⟩ : ByteArray).size == 0 && ks.length == 0 && inB n _ _)
          rw [hk]; rfl
        · refine (rlit_1b n ks.length p c w deep hk).mono (fun e w' ⟨a, b⟩ => ⟨?_, b⟩)
          rw [a]; refine ret_bool ?_; rw [okL_one rfl]
          show _ = ((⟨#[]⟩ : ByteArray).size == 0 && ks.length == 0 && inB n _ _)
          simp [hk]
      · refine (rlit_1c s n ks.length p c w deep hs0).mono (fun e w' ⟨a, b⟩ => ⟨?_, b⟩)
        rw [a]; refine ret_bool ?_; rw [okL_one rfl]
        show _ = (s.size == 0 && ks.length == 0 && inB n _ _)
        simp [hs0]
    by_cases hn : n = 0
    · subst hn
      by_cases k2 : k = 2
      · subst k2
        by_cases hk : ks.length = 0
        · rw [hk]
          refine (rlit_2a s p c w deep h6).mono (fun e w' ⟨a, b⟩ => ⟨?_, b⟩)
          rw [a]; refine ret_bool ?_; rw [okL_two rfl]
          show _ = ((0 : Int) == 0 && ks.length == 0 && decide (s.size ≤ 250))
          rw [hk]; rfl
        · refine (rlit_2b s ks.length p c w deep h6 hk).mono (fun e w' ⟨a, b⟩ => ⟨?_, b⟩)
          rw [a]; refine ret_bool ?_; rw [okL_two rfl]
          show _ = ((0 : Int) == 0 && ks.length == 0 && decide (s.size ≤ 250))
          simp [hk]
      by_cases k3 : k = 3
      · subst k3
        by_cases hk : ks.length = 0
        · rw [hk]
          refine (rlit_3a s p c w deep h6).mono (fun e w' ⟨a, b⟩ => ⟨?_, b⟩)
          rw [a]; refine ret_bool ?_; rw [okL_three rfl]
          show _ = ((0 : Int) == 0 && ks.length == 0 && inB (s.size : Int) 1 60)
          rw [hk]; rfl
        · refine (rlit_3b s ks.length p c w deep h6 hk).mono (fun e w' ⟨a, b⟩ => ⟨?_, b⟩)
          rw [a]; refine ret_bool ?_; rw [okL_three rfl]
          show _ = ((0 : Int) == 0 && ks.length == 0 && inB (s.size : Int) 1 60)
          simp [hk]
      by_cases k4 : k = 4
      · subst k4
        by_cases hs0 : s.size = 0
        · obtain rfl := size_zero hs0
          by_cases hd0 : deep = 0
          · subst hd0
            refine (rlit_4d ks.length p c w h4 h5).mono (fun e w' ⟨a, b⟩ => ⟨?_, b⟩)
            rw [a]; refine ret_bool ?_; rw [okL_four rfl]
            show _ = ((0 : Int) == 0 && (⟨#[]⟩ : ByteArray).size == 0 && decide ((0 : Int) < 0) && decide (ks.length ≤ 250) && ks.all (okL (0 - 1)))
            simp
          · by_cases hl : ks.length ≤ 250
            · refine (rlit_4 ks p c w deep h4 h5 (by omega) hd hl hB h7 h8 (fun i hi w' hB' => ih i hi w' (deep - 1) hB' (by omega) (by omega))).mono (fun e w' ⟨a, b⟩ => ⟨?_, b⟩)
              rw [a]; refine ret_bool ?_; rw [okL_four rfl]
              show _ = ((0 : Int) == 0 && (⟨#[]⟩ : ByteArray).size == 0 && decide (0 < deep) && decide (ks.length ≤ 250) && ks.all (okL (deep - 1)))
              rw [decide_eq_true (show 0 < deep by omega), decide_eq_true hl]; show _ = (true && true && true && true && _); simp only [Bool.true_and]
            · refine (rlit_4l ks.length p c w deep h4 h5 hd0 hl).mono (fun e w' ⟨a, b⟩ => ⟨?_, b⟩)
              rw [a]; refine ret_bool ?_; rw [okL_four rfl]
              show _ = ((0 : Int) == 0 && (⟨#[]⟩ : ByteArray).size == 0 && decide (0 < deep) && decide (ks.length ≤ 250) && ks.all (okL (deep - 1)))
              rw [decide_eq_false hl]; simp
        · refine (rlit_4s s ks.length p c w deep h4 h5 hs0).mono (fun e w' ⟨a, b⟩ => ⟨?_, b⟩)
          rw [a]; refine ret_bool ?_; rw [okL_four rfl]
          show _ = ((0 : Int) == 0 && s.size == 0 && decide (0 < deep) && decide (ks.length ≤ 250) && ks.all (okL (deep - 1)))
          simp [hs0]
      · refine (rlit_odd s ks.length k p c w deep k1 k2 k3 k4).mono (fun e w' ⟨a, b⟩ => ⟨?_, b⟩)
        rw [a]; refine ret_bool ?_
        exact (okL_odd (t := .node k s 0 ks) k1 k2 k3 k4).symm
    · refine (rlit_num s n ks.length k p c w deep k1 hn).mono (fun e w' ⟨a, b⟩ => ⟨?_, b⟩)
      rw [a]; refine ret_bool ?_
      have hn' : (n == 0) = false := by simpa using hn
      by_cases k2 : k = 2
      · subst k2; rw [okL_two rfl]; show false = (n == 0 && ks.length == 0 && _); rw [hn']; rfl
      by_cases k3 : k = 3
      · subst k3; rw [okL_three rfl]; show false = (n == 0 && ks.length == 0 && _); rw [hn']; rfl
      by_cases k4 : k = 4
      · subst k4; rw [okL_four rfl]; show false = (n == 0 && _ && _ && _ && _); rw [hn']; rfl
      · exact (okL_odd (t := .node k s n ks) k1 k2 k3 k4).symm
end Go.Proofs.Ytnjfjebmkajpbaa

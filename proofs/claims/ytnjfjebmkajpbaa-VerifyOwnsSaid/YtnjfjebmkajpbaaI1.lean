/- Contracts: literals. -/
import Derived.Test.YtnjfjebmkajpbaaB2
namespace Go.Proofs.Ytnjfjebmkajpbaa
open Go.ChangeShapes Go.WideShapes Go.ChangeAt Go.RowKit
set_option linter.unusedVariables false
set_option linter.unusedSimpArgs false

theorem inn_any (n lo hi : Int) (w : World) : Calls Try.prog 17 #[.int .i64 n, .int .i64 lo, .int .i64 hi] w fun e w' => e = .returned (.bool (inB n lo hi)) ∧ w' = w := by
  by_cases h : lo ≤ n
  · have F : Hid (inB n lo hi = decide (n ≤ hi)) := by show _ = _; unfold inB; rw [decide_eq_true h]; rfl
    have d : decide (lo ≤ n) = true := decide_eq_true h
    go_enter Try.func17, Try.ntmps17
    go_wp2
    go_ret
    exact ⟨ret_bool F.out.symm, rfl⟩
  · have F : Hid (inB n lo hi = false) := by show _ = _; unfold inB; rw [decide_eq_false h]; rfl
    have d : decide (lo ≤ n) = false := decide_eq_false h
    go_enter Try.func17, Try.ntmps17
    go_wp2
    go_ret
    exact ⟨ret_bool F.out.symm, rfl⟩
/-- rows of literals are typed -/
def Typed (n : Nat) (F : Nat → Nat → Value) : Prop := ∀ i, i < n → ∃ (k : Int) (s : ByteArray) (m : Int) (q : Option Addr) (l c : Nat), F i 0 = .int .i64 k ∧ F i 1 = .string s ∧ F i 2 = .int .i64 m ∧ F i 3 = .slice q l c
theorem any_false {n : Nat} {Q : Nat → Bool} (h : ∀ j, j < n → Q j = false) : (List.range n).any Q = false := by
  rw [List.any_eq_false]; intro j hj; rw [h j (List.mem_range.1 hj)]; simp
theorem any_true {n k : Nat} {Q : Nat → Bool} (hk : k < n) (h : Q k = true) : (List.range n).any Q = true := List.any_eq_true.2 ⟨k, List.mem_range.2 hk, h⟩
def FoundPost (n : Nat) (Q : Nat → Bool) (w : World) (e : Ending) (w' : World) : Prop := (∃ r : Int, e = .returned (.int .i64 r) ∧ decide (0 ≤ r) = (List.range n).any Q) ∧ Below w.heap.size w w'

set_option maxHeartbeats 8000000 in
theorem index34 {w0 w : World} {p : Option Addr} {n c b : Nat} {F : Nat → Nat → Value} {Q : Nat → Bool} {deep : Int} (hrow : Row w0 p n 4 F) (hty : Typed n F) (hn : n ≤ 9223372036854775807) (hB : Below w0.heap.size w0 w) (hb : w.cell? ⟨b, 0, none⟩ = some (.int .i64 deep)) (hf : ∀ i, i < n → ∀ w', Below w0.heap.size w0 w' → w'.cell? ⟨b, 0, none⟩ = some (.int .i64 deep) → Calls Try.prog 34 #[.agg #[F i 0, F i 1, F i 2, F i 3], .pointer (some ⟨b, 0, none⟩)] w' (fun e w'' => e = .returned (.bool (Q i)) ∧ Below w'.heap.size w' w'')) :
    Calls Try.prog 33 #[.slice p n c, .func (.func 34) #[] #[.pointer (some ⟨b, 0, none⟩)]] w (FoundPost n Q w) := by
  have HF := Lib.hid hf
  have HR := Lib.hid hrow
  have HT := Lib.hid hty
  have hI : Inv w0 w w w := Inv.start hB (Below.refl _ _)
  have hbw := cell_lt hb
  have HBC := Lib.hid hb
  clear hf hrow hty hB hb
  go_enter Try.func33, Try.ntmps33
  go_wp2_with fail
  go_loopw [8] (fun i wr => ∃ k : Nat, k ≤ n ∧ i = .int .i64 k ∧ (∀ j, j < k → Q j = false) ∧ Inv w0 w w wr) (fun i _ => n - (intOf i).toNat)
  case atStart => exact ⟨0, Nat.zero_le _, rfl, fun j hj => absurd hj (by omega), hI⟩
  case round =>
    clear hI
    obtain ⟨k, hk, rfl, hall, hI⟩ := hrel
    have HALL := Lib.hid hall
    clear hall
    by_cases hlt : k < n
    · have d1 : decide (k < n) = true := decide_eq_true hlt
      obtain ⟨g, off, rfl, hgl, hc⟩ := HR.out (by omega)
      obtain ⟨x0, x1, x2, x3, x4, x5, e0, e1, e2, e3⟩ := HT.out k hlt
      have c0 := (hI.b0.cell (p := ⟨g, off + k * 4 + 0, none⟩) hgl).trans (hc k hlt 0 (by omega))
      have c1 := (hI.b0.cell (p := ⟨g, off + k * 4 + 1, none⟩) hgl).trans (hc k hlt 1 (by omega))
      have c2 := (hI.b0.cell (p := ⟨g, off + k * 4 + 2, none⟩) hgl).trans (hc k hlt 2 (by omega))
      have c3 := (hI.b0.cell (p := ⟨g, off + k * 4 + 3, none⟩) hgl).trans (hc k hlt 3 (by omega))
      rw [Nat.add_zero, e0] at c0
      rw [e1] at c1
      rw [e2] at c2
      rw [e3] at c3
      have hcall := HF.out k hlt wr hI.b0 ((hI.bw.cell (p := ⟨b, 0, none⟩) hbw).trans HBC.out)
      rw [e0, e1, e2, e3] at hcall
      have HCALL := Lib.hid hcall
      clear hc hcall e0 e1 e2 e3
      have g0 : (0 : Int) ≤ (k : Int) := by omega
      have g1 : (k : Int) < (n : Int) := by omega
      have d0 : decide ((0 : Int) ≤ (k : Int)) = true := decide_eq_true g0
      cases hq : Q k
      · have HQ := Lib.hid hq
        clear hq
        go_wp2_with (go_at_call 34; (with_reducible refine HCALL.out.mono ?_); rw [HQ.out]; rintro e w3 ⟨rfl, hb3⟩)
        go_roundw
        case rel => exact ⟨k + 1, by omega, by go_num, fun j hj => (by
            rcases Nat.lt_or_ge j k with h | h
            · exact HALL.out j h
            · obtain rfl : j = k := by omega
              exact HQ.out), hI.go (by (repeat' (first | (with_reducible exact Below.refl _ _) | (with_reducible assumption) | (with_reducible refine below_drewN ?_ _) | (with_reducible refine Below.alloc ?_ ?_ _) | (with_reducible refine Below.drew ?_) | (with_reducible refine Below.setCell ?_ ?_ _) | go_size)))⟩
        case measure => simp [intOf]; omega
      · have HQ := Lib.hid hq
        clear hq
        go_wp2_with (go_at_call 34; (with_reducible refine HCALL.out.mono ?_); rw [HQ.out]; rintro e w3 ⟨rfl, hb3⟩)
        go_ret
        exact ⟨⟨_, rfl, by rw [any_true hlt HQ.out]; exact d0⟩, (hI.go hb3).bw⟩
    · have hkn : k = n := by omega
      have d1 : decide (k < n) = false := decide_eq_false hlt
      clear hlt
      subst hkn
      go_wp2_with fail
      go_ret
      exact ⟨⟨_, rfl, by rw [any_false HALL.out]; rfl⟩, hI.bw⟩
theorem contains34 {w0 w : World} {p : Option Addr} {n c b : Nat} {F : Nat → Nat → Value} {Q : Nat → Bool} {deep : Int} (hrow : Row w0 p n 4 F) (hty : Typed n F) (hn : n ≤ 9223372036854775807) (hB : Below w0.heap.size w0 w) (hb : w.cell? ⟨b, 0, none⟩ = some (.int .i64 deep)) (hf : ∀ i, i < n → ∀ w', Below w0.heap.size w0 w' → w'.cell? ⟨b, 0, none⟩ = some (.int .i64 deep) → Calls Try.prog 34 #[.agg #[F i 0, F i 1, F i 2, F i 3], .pointer (some ⟨b, 0, none⟩)] w' (fun e w'' => e = .returned (.bool (Q i)) ∧ Below w'.heap.size w' w'')) :
    Calls Try.prog 18 #[.slice p n c, .func (.func 34) #[] #[.pointer (some ⟨b, 0, none⟩)]] w fun e w' => e = .returned (.bool ((List.range n).any Q)) ∧ Below w.heap.size w w' := by
  have hcall := index34 (c := c) hrow hty hn hB hb hf
  have HCALL := Lib.hid hcall
  clear hcall hrow hty hB hf hb
  go_enter Try.func18, Try.ntmps18
  go_wp2_with (go_at_call 33; (with_reducible refine HCALL.out.mono ?_); rintro e w3 ⟨⟨r, rfl, hr⟩, hb3⟩)
  go_ret
  exact ⟨by first | rfl | (rw [← hr]; rfl) | (simp only [← hr]; rfl), hb3⟩

set_option maxHeartbeats 8000000 in
theorem index19 {w0 w : World} {p : Option Addr} {n c : Nat} {F : Nat → Nat → Value} {Q : Nat → Bool} (hrow : Row w0 p n 4 F) (hty : Typed n F) (hn : n ≤ 9223372036854775807) (hB : Below w0.heap.size w0 w) (hf : ∀ i, i < n → ∀ w', Below w0.heap.size w0 w' → Calls Try.prog 19 #[.agg #[F i 0, F i 1, F i 2, F i 3]] w' (fun e w'' => e = .returned (.bool (Q i)) ∧ Below w'.heap.size w' w'')) :
    Calls Try.prog 33 #[.slice p n c, .func (.func 19) #[] #[]] w (FoundPost n Q w) := by
  have HF := Lib.hid hf
  have HR := Lib.hid hrow
  have HT := Lib.hid hty
  have hI : Inv w0 w w w := Inv.start hB (Below.refl _ _)
  skip
  skip
  clear hf hrow hty hB
  go_enter Try.func33, Try.ntmps33
  go_wp2_with fail
  go_loopw [8] (fun i wr => ∃ k : Nat, k ≤ n ∧ i = .int .i64 k ∧ (∀ j, j < k → Q j = false) ∧ Inv w0 w w wr) (fun i _ => n - (intOf i).toNat)
  case atStart => exact ⟨0, Nat.zero_le _, rfl, fun j hj => absurd hj (by omega), hI⟩
  case round =>
    clear hI
    obtain ⟨k, hk, rfl, hall, hI⟩ := hrel
    have HALL := Lib.hid hall
    clear hall
    by_cases hlt : k < n
    · have d1 : decide (k < n) = true := decide_eq_true hlt
      obtain ⟨g, off, rfl, hgl, hc⟩ := HR.out (by omega)
      obtain ⟨x0, x1, x2, x3, x4, x5, e0, e1, e2, e3⟩ := HT.out k hlt
      have c0 := (hI.b0.cell (p := ⟨g, off + k * 4 + 0, none⟩) hgl).trans (hc k hlt 0 (by omega))
      have c1 := (hI.b0.cell (p := ⟨g, off + k * 4 + 1, none⟩) hgl).trans (hc k hlt 1 (by omega))
      have c2 := (hI.b0.cell (p := ⟨g, off + k * 4 + 2, none⟩) hgl).trans (hc k hlt 2 (by omega))
      have c3 := (hI.b0.cell (p := ⟨g, off + k * 4 + 3, none⟩) hgl).trans (hc k hlt 3 (by omega))
      rw [Nat.add_zero, e0] at c0
      rw [e1] at c1
      rw [e2] at c2
      rw [e3] at c3
      have hcall := HF.out k hlt wr hI.b0
      rw [e0, e1, e2, e3] at hcall
      have HCALL := Lib.hid hcall
      clear hc hcall e0 e1 e2 e3
      have g0 : (0 : Int) ≤ (k : Int) := by omega
      have g1 : (k : Int) < (n : Int) := by omega
      have d0 : decide ((0 : Int) ≤ (k : Int)) = true := decide_eq_true g0
      cases hq : Q k
      · have HQ := Lib.hid hq
        clear hq
        go_wp2_with (go_at_call 19; (with_reducible refine HCALL.out.mono ?_); rw [HQ.out]; rintro e w3 ⟨rfl, hb3⟩)
        go_roundw
        case rel => exact ⟨k + 1, by omega, by go_num, fun j hj => (by
            rcases Nat.lt_or_ge j k with h | h
            · exact HALL.out j h
            · obtain rfl : j = k := by omega
              exact HQ.out), hI.go (by (repeat' (first | (with_reducible exact Below.refl _ _) | (with_reducible assumption) | (with_reducible refine below_drewN ?_ _) | (with_reducible refine Below.alloc ?_ ?_ _) | (with_reducible refine Below.drew ?_) | (with_reducible refine Below.setCell ?_ ?_ _) | go_size)))⟩
        case measure => simp [intOf]; omega
      · have HQ := Lib.hid hq
        clear hq
        go_wp2_with (go_at_call 19; (with_reducible refine HCALL.out.mono ?_); rw [HQ.out]; rintro e w3 ⟨rfl, hb3⟩)
        go_ret
        exact ⟨⟨_, rfl, by rw [any_true hlt HQ.out]; exact d0⟩, (hI.go hb3).bw⟩
    · have hkn : k = n := by omega
      have d1 : decide (k < n) = false := decide_eq_false hlt
      clear hlt
      subst hkn
      go_wp2_with fail
      go_ret
      exact ⟨⟨_, rfl, by rw [any_false HALL.out]; rfl⟩, hI.bw⟩
theorem contains19 {w0 w : World} {p : Option Addr} {n c : Nat} {F : Nat → Nat → Value} {Q : Nat → Bool} (hrow : Row w0 p n 4 F) (hty : Typed n F) (hn : n ≤ 9223372036854775807) (hB : Below w0.heap.size w0 w) (hf : ∀ i, i < n → ∀ w', Below w0.heap.size w0 w' → Calls Try.prog 19 #[.agg #[F i 0, F i 1, F i 2, F i 3]] w' (fun e w'' => e = .returned (.bool (Q i)) ∧ Below w'.heap.size w' w'')) :
    Calls Try.prog 18 #[.slice p n c, .func (.func 19) #[] #[]] w fun e w' => e = .returned (.bool ((List.range n).any Q)) ∧ Below w.heap.size w w' := by
  have hcall := index19 (c := c) hrow hty hn hB hf
  have HCALL := Lib.hid hcall
  clear hcall hrow hty hB hf
  go_enter Try.func18, Try.ntmps18
  go_wp2_with (go_at_call 33; (with_reducible refine HCALL.out.mono ?_); rintro e w3 ⟨⟨r, rfl, hr⟩, hb3⟩)
  go_ret
  exact ⟨by first | rfl | (rw [← hr]; rfl) | (simp only [← hr]; rfl), hb3⟩
end Go.Proofs.Ytnjfjebmkajpbaa

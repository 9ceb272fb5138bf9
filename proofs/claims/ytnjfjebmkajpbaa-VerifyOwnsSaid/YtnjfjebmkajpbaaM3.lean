/- Contracts: how many parts a literal has. -/
import Derived.Test.YtnjfjebmkajpbaaM1
namespace Go.Proofs.Ytnjfjebmkajpbaa
open Go.ChangeShapes Go.WideShapes Go.ChangeAt Go.RowKit
set_option linter.unusedVariables false
set_option linter.unusedSimpArgs false

def PartsPost (t : LitT) (most : Int) (w : World) (e : Ending) (w' : World) : Prop := (∃ r : Int, e = .returned (.int .i64 r) ∧ (r < 0 ∨ ((hgt t : Int) ≤ r ∧ r ≤ most))) ∧ Below w.heap.size w w'
theorem parts_node {w0 : World} {F : Nat → Nat → Value} (k0 : Int) (s : ByteArray) (n0 : Int) (ks : List LitT) (p : Option Addr) (c : Nat) (w : World) (most : Int) (hc1 : ks.length ≤ c) (hc2 : c ≤ 9223372036854775807) (hm1 : -1000000 ≤ most) (hm2 : most ≤ 1000000) (hB : Below w0.heap.size w0 w) (hrow : Row w0 p ks.length 4 F) (hlit : ∀ (i : Nat) (h : i < ks.length), IsLit w0 ks[i] (F i))
    (hk : ∀ (i : Nat) (h : i < ks.length) (w' : World) (most' : Int), Below w0.heap.size w0 w' → -1000000 ≤ most' → most' ≤ 1000000 → Calls Try.prog 16 #[.agg #[F i 0, F i 1, F i 2, F i 3], .int .i64 most'] w' (PartsPost ks[i] most' w')) :
    Calls Try.prog 16 #[.agg #[.int .i64 k0, .string s, .int .i64 n0, .slice p ks.length c], .int .i64 most] w (PartsPost (.node k0 s n0 ks) most w) := by
  have HR := Lib.hid hrow
  have HT := Lib.hid (typed_lits hlit)
  have HK := Lib.hid hk
  have hI0 : Inv w0 w (w.alloc (.cells #[.int .i64 k0, .string s, .int .i64 n0, .slice p ks.length c] 42)) (w.alloc (.cells #[.int .i64 k0, .string s, .int .i64 n0, .slice p ks.length c] 42)) := Inv.start hB ((Below.refl _ _).alloc (Nat.le_refl _) _)
  have HI0 := Lib.hid hI0
  clear hrow hlit hk hI0
  go_enter Try.func16, Try.ntmps16
  go_wp2_with fail
  go_loopw [5, 6] (fun nv i wr => ∃ (k : Nat) (n : Int), k ≤ ks.length ∧ i = .int .i64 k ∧ nv = .int .i64 n ∧ 1 ≤ n ∧ n ≤ 1 + (if k = 0 then 0 else 1000000) ∧ (∀ j, (h : j < ks.length) → j < k → (hgt ks[j] : Int) + 1 ≤ n) ∧ Inv w0 w (w.alloc (.cells #[.int .i64 k0, .string s, .int .i64 n0, .slice p ks.length c] 42)) wr) (fun _ i _ => ks.length - (intOf i).toNat)
  case atStart => exact ⟨0, 1, Nat.zero_le _, rfl, rfl, by omega, by simp, fun j _ hj => absurd hj (by omega), HI0.out⟩
  case round =>
    obtain ⟨k, n, hk, rfl, rfl, hn1, hn2, hall, hI⟩ := hrel
    have HALL := Lib.hid hall
    clear hall
    have hz : w.heap.size < (w.alloc (.cells #[.int .i64 k0, .string s, .int .i64 n0, .slice p ks.length c] 42)).heap.size := by go_size
    have hn3 : n ≤ 1000001 := by split at hn2 <;> omega
    clear hn2
    have y0 : wr.cell? ⟨w.heap.size, 0, none⟩ = some (.int .i64 k0) := (hI.cell w.heap.size 0 hz).trans (by simp [go_sem])
    have y1 : wr.cell? ⟨w.heap.size, 1, none⟩ = some (.string s) := (hI.cell w.heap.size 1 hz).trans (by simp [go_sem])
    have y2 : wr.cell? ⟨w.heap.size, 2, none⟩ = some (.int .i64 n0) := (hI.cell w.heap.size 2 hz).trans (by simp [go_sem])
    have y3 : wr.cell? ⟨w.heap.size, 3, none⟩ = some (.slice p ks.length c) := (hI.cell w.heap.size 3 hz).trans (by simp [go_sem])
    by_cases hlt : k < ks.length
    · have d1 : decide (k < ks.length) = true := decide_eq_true hlt
      obtain ⟨g, off, rfl, hgl, hc⟩ := HR.out (by omega)
      obtain ⟨x0, x1, x2, x3, x4, x5, e0', e1, e2, e3⟩ := HT.out k hlt
      have b0 := (hI.b0.cell (p := ⟨g, off + k * 4 + 0, none⟩) hgl).trans (hc k hlt 0 (by omega))
      have b1 := (hI.b0.cell (p := ⟨g, off + k * 4 + 1, none⟩) hgl).trans (hc k hlt 1 (by omega))
      have b2 := (hI.b0.cell (p := ⟨g, off + k * 4 + 2, none⟩) hgl).trans (hc k hlt 2 (by omega))
      have b3 := (hI.b0.cell (p := ⟨g, off + k * 4 + 3, none⟩) hgl).trans (hc k hlt 3 (by omega))
      rw [Nat.add_zero, e0'] at b0
      rw [e1] at b1
      rw [e2] at b2
      rw [e3] at b3
      have g0 : (0 : Int) ≤ (k : Int) := by omega
      have g1 : (k : Int) < (ks.length : Int) := by omega
      by_cases hnm : most ≤ n
      · have d2 : decide (most ≤ n) = true := decide_eq_true hnm
        clear hc e0' e1 e2 e3
        go_wp2_with fail
        go_ret
        exact ⟨⟨-1, rfl, .inl (by omega)⟩, hI.bw⟩
      · have d2 : decide (most ≤ n) = false := decide_eq_false hnm
        have hcall := HK.out k hlt wr (most - n) hI.b0 (by omega) (by omega)
        rw [e0', e1, e2, e3] at hcall
        have HCALL := Lib.hid hcall
        clear hc hcall e0' e1 e2 e3
        have HJ := Lib.hid hI
        clear hI
        go_wp2_with fail
        (with_reducible refine HCALL.out.mono ?_)
        rintro e w3 ⟨⟨r, rfl, hr⟩, hb3⟩
        by_cases hr0 : r < 0
        · have d3 : decide (r < 0) = true := decide_eq_true hr0
          go_wp2_with fail
          go_ret
          exact ⟨⟨-1, rfl, .inl (by omega)⟩, (HJ.out.go hb3).bw⟩
        · have d3 : decide (r < 0) = false := decide_eq_false hr0
          obtain ⟨hr1, hr2⟩ : (hgt ks[k] : Int) ≤ r ∧ r ≤ most - n := by
            rcases hr with h | h
            · exact absurd h hr0
            · exact h
          go_wp2_with fail
          go_roundw
          case rel => exact ⟨k + 1, n + r, by omega, by go_num, rfl, by omega, by rw [if_neg (by omega)]; omega, fun j hj hjk => (by
              rcases Nat.lt_or_ge j k with h | h
              · have := HALL.out j hj h; omega
              · obtain rfl : j = k := by omega
                omega), HJ.out.go hb3⟩
          case measure => simp [intOf]; omega
    · have hkn : k = ks.length := by omega
      have d1 : decide (k < ks.length) = false := decide_eq_false hlt
      clear hlt
      subst hkn
      by_cases hnm : most < n
      · have d2 : decide (most < n) = true := decide_eq_true hnm
        go_wp2_with fail
        go_ret
        exact ⟨⟨-1, rfl, .inl (by omega)⟩, hI.bw⟩
      · have d2 : decide (most < n) = false := decide_eq_false hnm
        go_wp2_with fail
        go_ret
        refine ⟨⟨n, rfl, .inr ⟨?_, by omega⟩⟩, hI.bw⟩
        show ((hgts ks + 1 : Nat) : Int) ≤ n
        have := hgts_le ks (n - 1).toNat (fun i hi => by have := HALL.out i hi hi; omega)
        omega
end Go.Proofs.Ytnjfjebmkajpbaa

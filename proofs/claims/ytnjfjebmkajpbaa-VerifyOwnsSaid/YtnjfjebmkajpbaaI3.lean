/- Contracts: literals, of the program, whole. -/
import Derived.Test.YtnjfjebmkajpbaaI2
namespace Go.Proofs.Ytnjfjebmkajpbaa
open Go.ChangeShapes Go.WideShapes Go.ChangeAt Go.RowKit
set_option linter.unusedVariables false
set_option linter.unusedSimpArgs false

theorem size_zero {s : ByteArray} (h : s.size = 0) : s = ⟨#[]⟩ := by
  cases s with
  | mk d => have : d = #[] := Array.eq_empty_of_size_eq_zero h; rw [this]
theorem literal_any {w0 : World} {t : LitT} {f : Nat → Value} (h : IsLit w0 t f) : LitOk w0 t f := by
  induction h with
  | node k s n ks p c F f h0 h1 h2 h3 h4 h5 h6 h7 h8 ih =>
    intro w deep hB hd hh
    rw [h0, h1, h2, h3]
    have kid := kid_hgt (.node k s n ks)
    by_cases k1 : k = 1
    · subst k1
      by_cases hs0 : s.size = 0
      · obtain rfl := size_zero hs0
        by_cases hk : ks.length = 0
        · rw [hk]
          refine (lit_1a n p c w deep).mono (fun e w' ⟨a, b⟩ => ⟨?_, b⟩)
          rw [a]; refine ret_bool ?_; rw [okL_one rfl]
          show _ = ((⟨#[]⟩ : ByteArray).size == 0 && ks.length == 0 && inB n _ _)
          rw [hk]; rfl
        · refine (lit_1b n ks.length p c w deep hk).mono (fun e w' ⟨a, b⟩ => ⟨?_, b⟩)
          rw [a]; refine ret_bool ?_; rw [okL_one rfl]
          show _ = ((⟨#[]⟩ : ByteArray).size == 0 && ks.length == 0 && inB n _ _)
          simp [hk]
      · refine (lit_1c s n ks.length p c w deep hs0).mono (fun e w' ⟨a, b⟩ => ⟨?_, b⟩)
        rw [a]; refine ret_bool ?_; rw [okL_one rfl]
        show _ = (s.size == 0 && ks.length == 0 && inB n _ _)
        simp [hs0]
    by_cases k2 : k = 2
    · subst k2
      by_cases hn : n = 0
      · subst hn
        by_cases hk : ks.length = 0
        · rw [hk]
          refine (lit_2a s p c w deep h6).mono (fun e w' ⟨a, b⟩ => ⟨?_, b⟩)
          rw [a]; refine ret_bool ?_; rw [okL_two rfl]
          show _ = ((0 : Int) == 0 && ks.length == 0 && decide (s.size ≤ 250))
          rw [hk]; rfl
        · refine (lit_2b s ks.length p c w deep h6 hk).mono (fun e w' ⟨a, b⟩ => ⟨?_, b⟩)
          rw [a]; refine ret_bool ?_; rw [okL_two rfl]
          show _ = ((0 : Int) == 0 && ks.length == 0 && decide (s.size ≤ 250))
          simp [hk]
      · refine (lit_2c s ks.length n p c w deep h6 hn).mono (fun e w' ⟨a, b⟩ => ⟨?_, b⟩)
        rw [a]; refine ret_bool ?_; rw [okL_two rfl]
        show _ = (n == 0 && ks.length == 0 && decide (s.size ≤ 250))
        simp [hn]
    by_cases k3 : k = 3
    · subst k3
      by_cases hn : n = 0
      · subst hn
        by_cases hk : ks.length = 0
        · rw [hk]
          refine (lit_3a s p c w deep h6).mono (fun e w' ⟨a, b⟩ => ⟨?_, b⟩)
          rw [a]; refine ret_bool ?_; rw [okL_three rfl]
          show _ = ((0 : Int) == 0 && ks.length == 0 && inB (s.size : Int) 1 60)
          rw [hk]; rfl
        · refine (lit_3b s ks.length p c w deep h6 hk).mono (fun e w' ⟨a, b⟩ => ⟨?_, b⟩)
          rw [a]; refine ret_bool ?_; rw [okL_three rfl]
          show _ = ((0 : Int) == 0 && ks.length == 0 && inB (s.size : Int) 1 60)
          simp [hk]
      · refine (lit_3c s ks.length n p c w deep h6 hn).mono (fun e w' ⟨a, b⟩ => ⟨?_, b⟩)
        rw [a]; refine ret_bool ?_; rw [okL_three rfl]
        show _ = (n == 0 && ks.length == 0 && inB (s.size : Int) 1 60)
        simp [hn]
    by_cases k4 : k = 4
    · subst k4
      have hlen : ks.length ≤ 9223372036854775807 := by omega
      have hc : ∀ A : Obj, Calls Try.prog 18 #[.slice p ks.length c, .func (.func 34) #[] #[.pointer (some ⟨w.heap.size + 1, 0, none⟩)]] ((w.alloc A).alloc (.cells #[.int .i64 deep] 3)) fun e w' => e = .returned (.bool (!ks.all (okL (deep - 1)))) ∧ Below ((w.alloc A).alloc (.cells #[.int .i64 deep] 3)).heap.size ((w.alloc A).alloc (.cells #[.int .i64 deep] 3)) w' := fun A => by
        rw [← odd_all]
        have hB2 : Below w0.heap.size w0 ((w.alloc A).alloc (.cells #[.int .i64 deep] 3)) := (hB.alloc hB.size _).alloc (hB.alloc hB.size A).size _
        refine contains34 (deep := deep) (c := c) h7 (typed_lits h8) hlen hB2 (by simp [go_sem]) (fun i hi w' hB' hcell => ?_)
        have kk := kid i hi
        change hgt ks[i] + 1 ≤ _ at kk
        refine (lit1_any (h8 i hi) (ih i hi) (w.heap.size + 1) deep hB' hcell hd (by omega) (by omega)).mono (fun e w'' ⟨a, b⟩ => ⟨?_, b⟩)
        rw [a, odd_at hi]
      by_cases hn : n = 0
      · subst hn
        by_cases hs0 : s.size = 0
        · obtain rfl := size_zero hs0
          by_cases hd0 : 0 < deep
          · by_cases hl : ks.length ≤ 250
            · refine (lit_4a ks.length p c w deep _ (hc _) h4 h5 hd0 hl).mono (fun e w' ⟨a, b⟩ => ⟨?_, b⟩)
              rw [a]; refine ret_bool ?_; rw [okL_four rfl]
              show _ = ((0 : Int) == 0 && (⟨#[]⟩ : ByteArray).size == 0 && decide (0 < deep) && decide (ks.length ≤ 250) && ks.all (okL (deep - 1)))
              rw [decide_eq_true hd0, decide_eq_true hl]; show _ = (true && true && true && true && _); simp only [Bool.not_not, Bool.true_and]
            · refine (lit_4b ks.length p c w deep _ (hc _) h4 h5 hd0 hl).mono (fun e w' ⟨a, b⟩ => ⟨?_, b⟩)
              rw [a]; refine ret_bool ?_; rw [okL_four rfl]
              show _ = ((0 : Int) == 0 && (⟨#[]⟩ : ByteArray).size == 0 && decide (0 < deep) && decide (ks.length ≤ 250) && ks.all (okL (deep - 1)))
              rw [decide_eq_false hl]; simp
          · refine (lit_4c ks.length p c w deep _ (hc _) h4 h5 hd0).mono (fun e w' ⟨a, b⟩ => ⟨?_, b⟩)
            rw [a]; refine ret_bool ?_; rw [okL_four rfl]
            show _ = ((0 : Int) == 0 && (⟨#[]⟩ : ByteArray).size == 0 && decide (0 < deep) && decide (ks.length ≤ 250) && ks.all (okL (deep - 1)))
            rw [decide_eq_false hd0]; simp
        · refine (lit_4d s ks.length p c w deep _ (hc _) h4 h5 hs0).mono (fun e w' ⟨a, b⟩ => ⟨?_, b⟩)
          rw [a]; refine ret_bool ?_; rw [okL_four rfl]
          show _ = ((0 : Int) == 0 && s.size == 0 && decide (0 < deep) && decide (ks.length ≤ 250) && ks.all (okL (deep - 1)))
          simp [hs0]
      · refine (lit_4e s n ks.length p c w deep _ (hc _) h4 h5 hn).mono (fun e w' ⟨a, b⟩ => ⟨?_, b⟩)
        rw [a]; refine ret_bool ?_; rw [okL_four rfl]
        show _ = (n == 0 && s.size == 0 && decide (0 < deep) && decide (ks.length ≤ 250) && ks.all (okL (deep - 1)))
        simp [hn]
    · refine (lit_odd s n ks.length k p c w deep k1 k2 k3 k4).mono (fun e w' ⟨a, b⟩ => ⟨?_, b⟩)
      rw [a]; refine ret_bool ?_
      exact (okL_odd (t := .node k s n ks) k1 k2 k3 k4).symm
/-- Depths' own question about a literal -/
theorem dlit_any {w0 w : World} {t : LitT} {f : Nat → Value} (hl : IsLit w0 t f) (hB : Below w0.heap.size w0 w) (hh : hgt t ≤ 100000) :
    Calls Try.prog 19 #[.agg #[f 0, f 1, f 2, f 3]] w fun e w' => e = .returned (.bool (!okL 20 t)) ∧ Below w.heap.size w w' := by
  obtain ⟨p, c, G, e0, e1, e2, e3, _⟩ := hl.cells
  rw [e0, e1, e2, e3]
  have hc : ∀ o, Calls Try.prog 20 #[.agg #[.int .i64 t.kind, .string t.text, .int .i64 t.num, .slice p t.kids.length c], .int .i64 20] (w.alloc o) fun e w' => e = .returned (.bool (okL 20 t)) ∧ Below (w.alloc o).heap.size (w.alloc o) w' := fun o => by
    have := literal_any hl (w.alloc o) 20 (hB.alloc hB.size _) (by omega) (by omega)
    rw [e0, e1, e2, e3] at this
    exact this
  have HC := Lib.hid hc
  clear hc e0 e1 e2 e3 hl hh
  go_enter Try.func19, Try.ntmps19
  go_wp2_with (go_at_call 20; (with_reducible refine (HC.out _).mono ?_); rintro e w3 ⟨rfl, hb3⟩)
  go_ret
  exact ⟨rfl, ((Below.refl _ _).alloc (Nat.le_refl _) _).trans (hb3.mono (by go_size))⟩
/-- a slice of literals: is one not right? -/
theorem dlits_any {w0 w : World} {p : Option Addr} {n c : Nat} {F : Nat → Nat → Value} {ts : List LitT} (h : IsLits w0 p n F ts) (hB : Below w0.heap.size w0 w) (hn : n ≤ 9223372036854775807) (hh : ∀ (i : Nat) (h : i < ts.length), hgt ts[i] ≤ 100000) :
    Calls Try.prog 18 #[.slice p n c, .func (.func 19) #[] #[]] w fun e w' => e = .returned (.bool (!ts.all (okL 20))) ∧ Below w.heap.size w w' := by
  obtain ⟨rfl, hrow, hl⟩ := h
  rw [← odd_all]
  exact contains19 hrow (typed_lits hl) hn hB (fun i hi w' hB' => (dlit_any (hl i hi) hB' (hh i hi)).mono (fun e w'' ⟨a, b⟩ => ⟨by rw [a, odd_at hi], b⟩))
end Go.Proofs.Ytnjfjebmkajpbaa

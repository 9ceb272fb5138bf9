/- Contracts: Depths, where the head is wrong. -/
import Derived.Test.YtnjfjebmkajpbaaB3
namespace Go.Proofs.Ytnjfjebmkajpbaa
open Go.ChangeShapes Go.WideShapes Go.ChangeAt Go.RowKit
set_option linter.unusedVariables false
set_option linter.unusedSimpArgs false

set_option maxHeartbeats 16000000 in
set_option maxRecDepth 100000 in
theorem dep_head0 {w0 w : World} {F : Nat → Nat → Value} (n5 c c5 : Nat) (p q : Option Addr) (sel : ByteArray) (args temps prim fields : Int) (ts : List LitT) (hl : IsLits w0 p ts.length F ts) (hB : Below w0.heap.size w0 w) (hc1 : ts.length ≤ c) (hc2 : c ≤ 9223372036854775807) (hc3 : n5 ≤ c5) (hc4 : c5 ≤ 9223372036854775807) (hs : sel.size ≤ 9223372036854775807) (hh : ∀ (i : Nat) (h : i < ts.length), hgt ts[i] ≤ 100000) (h0 : inB fields 0 8 = false) (odd : Bool) (ho : (!ts.all (okL 20)) = odd) :
    Calls Try.prog 9 #[.agg #[.string sel, .int .i64 args, .int .i64 temps, .int .i64 prim, .slice p ts.length c, .slice q n5 c5], .int .i64 fields] w fun e w' => e = .returned (.tuple #[.slice none 0 0, .int .i64 19]) ∧ Below w.heap.size w w' := by
  have hc := dlits_any (c := c) hl (hB.alloc hB.size (.cells #[.string sel, .int .i64 args, .int .i64 temps, .int .i64 prim, .slice p ts.length c, .slice q n5 c5] 25)) (by omega) hh
  have HC := Lib.hid hc
  clear hc
  have HO := Lib.hid ho
  clear ho
  have H0 := Lib.hid h0
  clear h0
  go_enter Try.func9, Try.ntmps9
  go_wp2_with (first | (go_at_call 17; (with_reducible refine (inn_any _ _ _ _).mono ?_); (first | rw [H0.out]); rintro e wa ⟨rfl, hwa⟩; replace hwa := hwa.symm; subst hwa) | (go_at_call 18; (with_reducible refine HC.out.mono ?_); rw [HO.out]; rintro e w3 ⟨rfl, hb3⟩; have c0 : w3.cell? ⟨w.heap.size, 0, none⟩ = some (.string sel) := (hb3.cell (p := ⟨w.heap.size, 0, none⟩) (by go_size)).trans (by simp [go_sem]); have c1 : w3.cell? ⟨w.heap.size, 1, none⟩ = some (.int .i64 args) := (hb3.cell (p := ⟨w.heap.size, 1, none⟩) (by go_size)).trans (by simp [go_sem]); have c2 : w3.cell? ⟨w.heap.size, 2, none⟩ = some (.int .i64 temps) := (hb3.cell (p := ⟨w.heap.size, 2, none⟩) (by go_size)).trans (by simp [go_sem]); have c3 : w3.cell? ⟨w.heap.size, 3, none⟩ = some (.int .i64 prim) := (hb3.cell (p := ⟨w.heap.size, 3, none⟩) (by go_size)).trans (by simp [go_sem]); have c4 : w3.cell? ⟨w.heap.size, 4, none⟩ = some (.slice p ts.length c) := (hb3.cell (p := ⟨w.heap.size, 4, none⟩) (by go_size)).trans (by simp [go_sem]); have c5' : w3.cell? ⟨w.heap.size, 5, none⟩ = some (.slice q n5 c5) := (hb3.cell (p := ⟨w.heap.size, 5, none⟩) (by go_size)).trans (by simp [go_sem]); have hz3 : w.heap.size < w3.heap.size := Nat.lt_of_lt_of_le (by go_size) hb3.size))
  go_ret2
  exact ⟨rfl, (((Below.refl _ _).alloc (Nat.le_refl _) _).trans (hb3.mono (by go_size)))⟩

set_option maxHeartbeats 16000000 in
set_option maxRecDepth 100000 in
theorem dep_head1 {w0 w : World} {F : Nat → Nat → Value} (n5 c c5 : Nat) (p q : Option Addr) (sel : ByteArray) (args temps prim fields : Int) (ts : List LitT) (hl : IsLits w0 p ts.length F ts) (hB : Below w0.heap.size w0 w) (hc1 : ts.length ≤ c) (hc2 : c ≤ 9223372036854775807) (hc3 : n5 ≤ c5) (hc4 : c5 ≤ 9223372036854775807) (hs : sel.size ≤ 9223372036854775807) (hh : ∀ (i : Nat) (h : i < ts.length), hgt ts[i] ≤ 100000) (h0 : inB fields 0 8 = true) (h1 : inB (sel.size : Int) 1 60 = false) (odd : Bool) (ho : (!ts.all (okL 20)) = odd) :
    Calls Try.prog 9 #[.agg #[.string sel, .int .i64 args, .int .i64 temps, .int .i64 prim, .slice p ts.length c, .slice q n5 c5], .int .i64 fields] w fun e w' => e = .returned (.tuple #[.slice none 0 0, .int .i64 19]) ∧ Below w.heap.size w w' := by
  have hc := dlits_any (c := c) hl (hB.alloc hB.size (.cells #[.string sel, .int .i64 args, .int .i64 temps, .int .i64 prim, .slice p ts.length c, .slice q n5 c5] 25)) (by omega) hh
  have HC := Lib.hid hc
  clear hc
  have HO := Lib.hid ho
  clear ho
  have H0 := Lib.hid h0
  clear h0
  have H1 := Lib.hid h1
  clear h1
  go_enter Try.func9, Try.ntmps9
  go_wp2_with (first | (go_at_call 17; (with_reducible refine (inn_any _ _ _ _).mono ?_); (first | rw [H0.out] | rw [H1.out]); rintro e wa ⟨rfl, hwa⟩; replace hwa := hwa.symm; subst hwa) | (go_at_call 18; (with_reducible refine HC.out.mono ?_); rw [HO.out]; rintro e w3 ⟨rfl, hb3⟩; have c0 : w3.cell? ⟨w.heap.size, 0, none⟩ = some (.string sel) := (hb3.cell (p := ⟨w.heap.size, 0, none⟩) (by go_size)).trans (by simp [go_sem]); have c1 : w3.cell? ⟨w.heap.size, 1, none⟩ = some (.int .i64 args) := (hb3.cell (p := ⟨w.heap.size, 1, none⟩) (by go_size)).trans (by simp [go_sem]); have c2 : w3.cell? ⟨w.heap.size, 2, none⟩ = some (.int .i64 temps) := (hb3.cell (p := ⟨w.heap.size, 2, none⟩) (by go_size)).trans (by simp [go_sem]); have c3 : w3.cell? ⟨w.heap.size, 3, none⟩ = some (.int .i64 prim) := (hb3.cell (p := ⟨w.heap.size, 3, none⟩) (by go_size)).trans (by simp [go_sem]); have c4 : w3.cell? ⟨w.heap.size, 4, none⟩ = some (.slice p ts.length c) := (hb3.cell (p := ⟨w.heap.size, 4, none⟩) (by go_size)).trans (by simp [go_sem]); have c5' : w3.cell? ⟨w.heap.size, 5, none⟩ = some (.slice q n5 c5) := (hb3.cell (p := ⟨w.heap.size, 5, none⟩) (by go_size)).trans (by simp [go_sem]); have hz3 : w.heap.size < w3.heap.size := Nat.lt_of_lt_of_le (by go_size) hb3.size))
  go_ret2
  exact ⟨rfl, (((Below.refl _ _).alloc (Nat.le_refl _) _).trans (hb3.mono (by go_size)))⟩

set_option maxHeartbeats 16000000 in
set_option maxRecDepth 100000 in
theorem dep_head2 {w0 w : World} {F : Nat → Nat → Value} (n5 c c5 : Nat) (p q : Option Addr) (sel : ByteArray) (args temps prim fields : Int) (ts : List LitT) (hl : IsLits w0 p ts.length F ts) (hB : Below w0.heap.size w0 w) (hc1 : ts.length ≤ c) (hc2 : c ≤ 9223372036854775807) (hc3 : n5 ≤ c5) (hc4 : c5 ≤ 9223372036854775807) (hs : sel.size ≤ 9223372036854775807) (hh : ∀ (i : Nat) (h : i < ts.length), hgt ts[i] ≤ 100000) (h0 : inB fields 0 8 = true) (h1 : inB (sel.size : Int) 1 60 = true) (h2 : inB args 0 4 = false) (odd : Bool) (ho : (!ts.all (okL 20)) = odd) :
    Calls Try.prog 9 #[.agg #[.string sel, .int .i64 args, .int .i64 temps, .int .i64 prim, .slice p ts.length c, .slice q n5 c5], .int .i64 fields] w fun e w' => e = .returned (.tuple #[.slice none 0 0, .int .i64 19]) ∧ Below w.heap.size w w' := by
  have hc := dlits_any (c := c) hl (hB.alloc hB.size (.cells #[.string sel, .int .i64 args, .int .i64 temps, .int .i64 prim, .slice p ts.length c, .slice q n5 c5] 25)) (by omega) hh
  have HC := Lib.hid hc
  clear hc
  have HO := Lib.hid ho
  clear ho
  have H0 := Lib.hid h0
  clear h0
  have H1 := Lib.hid h1
  clear h1
  have H2 := Lib.hid h2
  clear h2
  go_enter Try.func9, Try.ntmps9
  go_wp2_with (first | (go_at_call 17; (with_reducible refine (inn_any _ _ _ _).mono ?_); (first | rw [H0.out] | rw [H1.out] | rw [H2.out]); rintro e wa ⟨rfl, hwa⟩; replace hwa := hwa.symm; subst hwa) | (go_at_call 18; (with_reducible refine HC.out.mono ?_); rw [HO.out]; rintro e w3 ⟨rfl, hb3⟩; have c0 : w3.cell? ⟨w.heap.size, 0, none⟩ = some (.string sel) := (hb3.cell (p := ⟨w.heap.size, 0, none⟩) (by go_size)).trans (by simp [go_sem]); have c1 : w3.cell? ⟨w.heap.size, 1, none⟩ = some (.int .i64 args) := (hb3.cell (p := ⟨w.heap.size, 1, none⟩) (by go_size)).trans (by simp [go_sem]); have c2 : w3.cell? ⟨w.heap.size, 2, none⟩ = some (.int .i64 temps) := (hb3.cell (p := ⟨w.heap.size, 2, none⟩) (by go_size)).trans (by simp [go_sem]); have c3 : w3.cell? ⟨w.heap.size, 3, none⟩ = some (.int .i64 prim) := (hb3.cell (p := ⟨w.heap.size, 3, none⟩) (by go_size)).trans (by simp [go_sem]); have c4 : w3.cell? ⟨w.heap.size, 4, none⟩ = some (.slice p ts.length c) := (hb3.cell (p := ⟨w.heap.size, 4, none⟩) (by go_size)).trans (by simp [go_sem]); have c5' : w3.cell? ⟨w.heap.size, 5, none⟩ = some (.slice q n5 c5) := (hb3.cell (p := ⟨w.heap.size, 5, none⟩) (by go_size)).trans (by simp [go_sem]); have hz3 : w.heap.size < w3.heap.size := Nat.lt_of_lt_of_le (by go_size) hb3.size))
  go_ret2
  exact ⟨rfl, (((Below.refl _ _).alloc (Nat.le_refl _) _).trans (hb3.mono (by go_size)))⟩

set_option maxHeartbeats 16000000 in
set_option maxRecDepth 100000 in
theorem dep_head3 {w0 w : World} {F : Nat → Nat → Value} (n5 c c5 : Nat) (p q : Option Addr) (sel : ByteArray) (args temps prim fields : Int) (ts : List LitT) (hl : IsLits w0 p ts.length F ts) (hB : Below w0.heap.size w0 w) (hc1 : ts.length ≤ c) (hc2 : c ≤ 9223372036854775807) (hc3 : n5 ≤ c5) (hc4 : c5 ≤ 9223372036854775807) (hs : sel.size ≤ 9223372036854775807) (hh : ∀ (i : Nat) (h : i < ts.length), hgt ts[i] ≤ 100000) (h0 : inB fields 0 8 = true) (h1 : inB (sel.size : Int) 1 60 = true) (h2 : inB args 0 4 = true) (h3 : inB temps args 24 = false) (odd : Bool) (ho : (!ts.all (okL 20)) = odd) :
    Calls Try.prog 9 #[.agg #[.string sel, .int .i64 args, .int .i64 temps, .int .i64 prim, .slice p ts.length c, .slice q n5 c5], .int .i64 fields] w fun e w' => e = .returned (.tuple #[.slice none 0 0, .int .i64 19]) ∧ Below w.heap.size w w' := by
  have hc := dlits_any (c := c) hl (hB.alloc hB.size (.cells #[.string sel, .int .i64 args, .int .i64 temps, .int .i64 prim, .slice p ts.length c, .slice q n5 c5] 25)) (by omega) hh
  have HC := Lib.hid hc
  clear hc
  have HO := Lib.hid ho
  clear ho
  have H0 := Lib.hid h0
  clear h0
  have H1 := Lib.hid h1
  clear h1
  have H2 := Lib.hid h2
  clear h2
  have H3 := Lib.hid h3
  clear h3
  go_enter Try.func9, Try.ntmps9
  go_wp2_with (first | (go_at_call 17; (with_reducible refine (inn_any _ _ _ _).mono ?_); (first | rw [H0.out] | rw [H1.out] | rw [H2.out] | rw [H3.out]); rintro e wa ⟨rfl, hwa⟩; replace hwa := hwa.symm; subst hwa) | (go_at_call 18; (with_reducible refine HC.out.mono ?_); rw [HO.out]; rintro e w3 ⟨rfl, hb3⟩; have c0 : w3.cell? ⟨w.heap.size, 0, none⟩ = some (.string sel) := (hb3.cell (p := ⟨w.heap.size, 0, none⟩) (by go_size)).trans (by simp [go_sem]); have c1 : w3.cell? ⟨w.heap.size, 1, none⟩ = some (.int .i64 args) := (hb3.cell (p := ⟨w.heap.size, 1, none⟩) (by go_size)).trans (by simp [go_sem]); have c2 : w3.cell? ⟨w.heap.size, 2, none⟩ = some (.int .i64 temps) := (hb3.cell (p := ⟨w.heap.size, 2, none⟩) (by go_size)).trans (by simp [go_sem]); have c3 : w3.cell? ⟨w.heap.size, 3, none⟩ = some (.int .i64 prim) := (hb3.cell (p := ⟨w.heap.size, 3, none⟩) (by go_size)).trans (by simp [go_sem]); have c4 : w3.cell? ⟨w.heap.size, 4, none⟩ = some (.slice p ts.length c) := (hb3.cell (p := ⟨w.heap.size, 4, none⟩) (by go_size)).trans (by simp [go_sem]); have c5' : w3.cell? ⟨w.heap.size, 5, none⟩ = some (.slice q n5 c5) := (hb3.cell (p := ⟨w.heap.size, 5, none⟩) (by go_size)).trans (by simp [go_sem]); have hz3 : w.heap.size < w3.heap.size := Nat.lt_of_lt_of_le (by go_size) hb3.size))
  go_ret2
  exact ⟨rfl, (((Below.refl _ _).alloc (Nat.le_refl _) _).trans (hb3.mono (by go_size)))⟩

set_option maxHeartbeats 16000000 in
set_option maxRecDepth 100000 in
theorem dep_head4 {w0 w : World} {F : Nat → Nat → Value} (n5 c c5 : Nat) (p q : Option Addr) (sel : ByteArray) (args temps prim fields : Int) (ts : List LitT) (hl : IsLits w0 p ts.length F ts) (hB : Below w0.heap.size w0 w) (hc1 : ts.length ≤ c) (hc2 : c ≤ 9223372036854775807) (hc3 : n5 ≤ c5) (hc4 : c5 ≤ 9223372036854775807) (hs : sel.size ≤ 9223372036854775807) (hh : ∀ (i : Nat) (h : i < ts.length), hgt ts[i] ≤ 100000) (h0 : inB fields 0 8 = true) (h1 : inB (sel.size : Int) 1 60 = true) (h2 : inB args 0 4 = true) (h3 : inB temps args 24 = true) (h4 : inB prim 0 255 = false) (odd : Bool) (ho : (!ts.all (okL 20)) = odd) :
    Calls Try.prog 9 #[.agg #[.string sel, .int .i64 args, .int .i64 temps, .int .i64 prim, .slice p ts.length c, .slice q n5 c5], .int .i64 fields] w fun e w' => e = .returned (.tuple #[.slice none 0 0, .int .i64 19]) ∧ Below w.heap.size w w' := by
  have hc := dlits_any (c := c) hl (hB.alloc hB.size (.cells #[.string sel, .int .i64 args, .int .i64 temps, .int .i64 prim, .slice p ts.length c, .slice q n5 c5] 25)) (by omega) hh
  have HC := Lib.hid hc
  clear hc
  have HO := Lib.hid ho
  clear ho
  have H0 := Lib.hid h0
  clear h0
  have H1 := Lib.hid h1
  clear h1
  have H2 := Lib.hid h2
  clear h2
  have H3 := Lib.hid h3
  clear h3
  have H4 := Lib.hid h4
  clear h4
  go_enter Try.func9, Try.ntmps9
  go_wp2_with (first | (go_at_call 17; (with_reducible refine (inn_any _ _ _ _).mono ?_); (first | rw [H0.out] | rw [H1.out] | rw [H2.out] | rw [H3.out] | rw [H4.out]); rintro e wa ⟨rfl, hwa⟩; replace hwa := hwa.symm; subst hwa) | (go_at_call 18; (with_reducible refine HC.out.mono ?_); rw [HO.out]; rintro e w3 ⟨rfl, hb3⟩; have c0 : w3.cell? ⟨w.heap.size, 0, none⟩ = some (.string sel) := (hb3.cell (p := ⟨w.heap.size, 0, none⟩) (by go_size)).trans (by simp [go_sem]); have c1 : w3.cell? ⟨w.heap.size, 1, none⟩ = some (.int .i64 args) := (hb3.cell (p := ⟨w.heap.size, 1, none⟩) (by go_size)).trans (by simp [go_sem]); have c2 : w3.cell? ⟨w.heap.size, 2, none⟩ = some (.int .i64 temps) := (hb3.cell (p := ⟨w.heap.size, 2, none⟩) (by go_size)).trans (by simp [go_sem]); have c3 : w3.cell? ⟨w.heap.size, 3, none⟩ = some (.int .i64 prim) := (hb3.cell (p := ⟨w.heap.size, 3, none⟩) (by go_size)).trans (by simp [go_sem]); have c4 : w3.cell? ⟨w.heap.size, 4, none⟩ = some (.slice p ts.length c) := (hb3.cell (p := ⟨w.heap.size, 4, none⟩) (by go_size)).trans (by simp [go_sem]); have c5' : w3.cell? ⟨w.heap.size, 5, none⟩ = some (.slice q n5 c5) := (hb3.cell (p := ⟨w.heap.size, 5, none⟩) (by go_size)).trans (by simp [go_sem]); have hz3 : w.heap.size < w3.heap.size := Nat.lt_of_lt_of_le (by go_size) hb3.size))
  go_ret2
  exact ⟨rfl, (((Below.refl _ _).alloc (Nat.le_refl _) _).trans (hb3.mono (by go_size)))⟩

set_option maxHeartbeats 16000000 in
set_option maxRecDepth 100000 in
theorem dep_odd {w0 w : World} {F : Nat → Nat → Value} (n5 c c5 : Nat) (p q : Option Addr) (sel : ByteArray) (args temps prim fields : Int) (ts : List LitT) (hl : IsLits w0 p ts.length F ts) (hB : Below w0.heap.size w0 w) (hc1 : ts.length ≤ c) (hc2 : c ≤ 9223372036854775807) (hc3 : n5 ≤ c5) (hc4 : c5 ≤ 9223372036854775807) (hs : sel.size ≤ 9223372036854775807) (hh : ∀ (i : Nat) (h : i < ts.length), hgt ts[i] ≤ 100000) (h0 : inB fields 0 8 = true) (h1 : inB (sel.size : Int) 1 60 = true) (h2 : inB args 0 4 = true) (h3 : inB temps args 24 = true) (h4 : inB prim 0 255 = true) (odd : Bool) (ho : (!ts.all (okL 20)) = odd) (hodd : odd = true) :
    Calls Try.prog 9 #[.agg #[.string sel, .int .i64 args, .int .i64 temps, .int .i64 prim, .slice p ts.length c, .slice q n5 c5], .int .i64 fields] w fun e w' => e = .returned (.tuple #[.slice none 0 0, .int .i64 19]) ∧ Below w.heap.size w w' := by
  have hc := dlits_any (c := c) hl (hB.alloc hB.size (.cells #[.string sel, .int .i64 args, .int .i64 temps, .int .i64 prim, .slice p ts.length c, .slice q n5 c5] 25)) (by omega) hh
  have HC := Lib.hid hc
  clear hc
  have HO := Lib.hid ho
  clear ho
  subst hodd
  have H0 := Lib.hid h0
  clear h0
  have H1 := Lib.hid h1
  clear h1
  have H2 := Lib.hid h2
  clear h2
  have H3 := Lib.hid h3
  clear h3
  have H4 := Lib.hid h4
  clear h4
  go_enter Try.func9, Try.ntmps9
  go_wp2_with (first | (go_at_call 17; (with_reducible refine (inn_any _ _ _ _).mono ?_); (first | rw [H0.out] | rw [H1.out] | rw [H2.out] | rw [H3.out] | rw [H4.out]); rintro e wa ⟨rfl, hwa⟩; replace hwa := hwa.symm; subst hwa) | (go_at_call 18; (with_reducible refine HC.out.mono ?_); rw [HO.out]; rintro e w3 ⟨rfl, hb3⟩; have c0 : w3.cell? ⟨w.heap.size, 0, none⟩ = some (.string sel) := (hb3.cell (p := ⟨w.heap.size, 0, none⟩) (by go_size)).trans (by simp [go_sem]); have c1 : w3.cell? ⟨w.heap.size, 1, none⟩ = some (.int .i64 args) := (hb3.cell (p := ⟨w.heap.size, 1, none⟩) (by go_size)).trans (by simp [go_sem]); have c2 : w3.cell? ⟨w.heap.size, 2, none⟩ = some (.int .i64 temps) := (hb3.cell (p := ⟨w.heap.size, 2, none⟩) (by go_size)).trans (by simp [go_sem]); have c3 : w3.cell? ⟨w.heap.size, 3, none⟩ = some (.int .i64 prim) := (hb3.cell (p := ⟨w.heap.size, 3, none⟩) (by go_size)).trans (by simp [go_sem]); have c4 : w3.cell? ⟨w.heap.size, 4, none⟩ = some (.slice p ts.length c) := (hb3.cell (p := ⟨w.heap.size, 4, none⟩) (by go_size)).trans (by simp [go_sem]); have c5' : w3.cell? ⟨w.heap.size, 5, none⟩ = some (.slice q n5 c5) := (hb3.cell (p := ⟨w.heap.size, 5, none⟩) (by go_size)).trans (by simp [go_sem]); have hz3 : w.heap.size < w3.heap.size := Nat.lt_of_lt_of_le (by go_size) hb3.size))
  go_ret2
  exact ⟨rfl, (((Below.refl _ _).alloc (Nat.le_refl _) _).trans (hb3.mono (by go_size)))⟩

set_option maxHeartbeats 16000000 in
set_option maxRecDepth 100000 in
theorem dep_many {w0 w : World} {F : Nat → Nat → Value} (n5 c c5 : Nat) (p q : Option Addr) (sel : ByteArray) (args temps prim fields : Int) (ts : List LitT) (hl : IsLits w0 p ts.length F ts) (hB : Below w0.heap.size w0 w) (hc1 : ts.length ≤ c) (hc2 : c ≤ 9223372036854775807) (hc3 : n5 ≤ c5) (hc4 : c5 ≤ 9223372036854775807) (hs : sel.size ≤ 9223372036854775807) (hh : ∀ (i : Nat) (h : i < ts.length), hgt ts[i] ≤ 100000) (h0 : inB fields 0 8 = true) (h1 : inB (sel.size : Int) 1 60 = true) (h2 : inB args 0 4 = true) (h3 : inB temps args 24 = true) (h4 : inB prim 0 255 = true) (hm : ¬ ts.length ≤ 60) (odd : Bool) (ho : (!ts.all (okL 20)) = odd) (hodd : odd = false) :
    Calls Try.prog 9 #[.agg #[.string sel, .int .i64 args, .int .i64 temps, .int .i64 prim, .slice p ts.length c, .slice q n5 c5], .int .i64 fields] w fun e w' => e = .returned (.tuple #[.slice none 0 0, .int .i64 19]) ∧ Below w.heap.size w w' := by
  have hc := dlits_any (c := c) hl (hB.alloc hB.size (.cells #[.string sel, .int .i64 args, .int .i64 temps, .int .i64 prim, .slice p ts.length c, .slice q n5 c5] 25)) (by omega) hh
  have HC := Lib.hid hc
  clear hc
  have HO := Lib.hid ho
  clear ho
  subst hodd
  have H0 := Lib.hid h0
  clear h0
  have H1 := Lib.hid h1
  clear h1
  have H2 := Lib.hid h2
  clear h2
  have H3 := Lib.hid h3
  clear h3
  have H4 := Lib.hid h4
  clear h4
  have d1 : decide (60 < ts.length) = true := decide_eq_true (by omega)
  have d2 : decide ((60 : Int) < (ts.length : Int)) = true := decide_eq_true (by omega)
  have d3 : (60 : Int) < (ts.length : Int) := by omega
  have d4 : 60 < ts.length := by omega
  clear hm
  go_enter Try.func9, Try.ntmps9
  go_wp2_with (first | (go_at_call 17; (with_reducible refine (inn_any _ _ _ _).mono ?_); (first | rw [H0.out] | rw [H1.out] | rw [H2.out] | rw [H3.out] | rw [H4.out]); rintro e wa ⟨rfl, hwa⟩; replace hwa := hwa.symm; subst hwa) | (go_at_call 18; (with_reducible refine HC.out.mono ?_); rw [HO.out]; rintro e w3 ⟨rfl, hb3⟩; have c0 : w3.cell? ⟨w.heap.size, 0, none⟩ = some (.string sel) := (hb3.cell (p := ⟨w.heap.size, 0, none⟩) (by go_size)).trans (by simp [go_sem]); have c1 : w3.cell? ⟨w.heap.size, 1, none⟩ = some (.int .i64 args) := (hb3.cell (p := ⟨w.heap.size, 1, none⟩) (by go_size)).trans (by simp [go_sem]); have c2 : w3.cell? ⟨w.heap.size, 2, none⟩ = some (.int .i64 temps) := (hb3.cell (p := ⟨w.heap.size, 2, none⟩) (by go_size)).trans (by simp [go_sem]); have c3 : w3.cell? ⟨w.heap.size, 3, none⟩ = some (.int .i64 prim) := (hb3.cell (p := ⟨w.heap.size, 3, none⟩) (by go_size)).trans (by simp [go_sem]); have c4 : w3.cell? ⟨w.heap.size, 4, none⟩ = some (.slice p ts.length c) := (hb3.cell (p := ⟨w.heap.size, 4, none⟩) (by go_size)).trans (by simp [go_sem]); have c5' : w3.cell? ⟨w.heap.size, 5, none⟩ = some (.slice q n5 c5) := (hb3.cell (p := ⟨w.heap.size, 5, none⟩) (by go_size)).trans (by simp [go_sem]); have hz3 : w.heap.size < w3.heap.size := Nat.lt_of_lt_of_le (by go_size) hb3.size))
  go_ret2
  exact ⟨rfl, (((Below.refl _ _).alloc (Nat.le_refl _) _).trans (hb3.mono (by go_size)))⟩

set_option maxHeartbeats 16000000 in
set_option maxRecDepth 100000 in
theorem dep_long {w0 w : World} {F : Nat → Nat → Value} (n5 c c5 : Nat) (p q : Option Addr) (sel : ByteArray) (args temps prim fields : Int) (ts : List LitT) (hl : IsLits w0 p ts.length F ts) (hB : Below w0.heap.size w0 w) (hc1 : ts.length ≤ c) (hc2 : c ≤ 9223372036854775807) (hc3 : n5 ≤ c5) (hc4 : c5 ≤ 9223372036854775807) (hs : sel.size ≤ 9223372036854775807) (hh : ∀ (i : Nat) (h : i < ts.length), hgt ts[i] ≤ 100000) (h0 : inB fields 0 8 = true) (h1 : inB (sel.size : Int) 1 60 = true) (h2 : inB args 0 4 = true) (h3 : inB temps args 24 = true) (h4 : inB prim 0 255 = true) (hm : ts.length ≤ 60) (h9 : inB (n5 : Int) 1 400 = false) (odd : Bool) (ho : (!ts.all (okL 20)) = odd) (hodd : odd = false) :
    Calls Try.prog 9 #[.agg #[.string sel, .int .i64 args, .int .i64 temps, .int .i64 prim, .slice p ts.length c, .slice q n5 c5], .int .i64 fields] w fun e w' => e = .returned (.tuple #[.slice none 0 0, .int .i64 19]) ∧ Below w.heap.size w w' := by
  have hc := dlits_any (c := c) hl (hB.alloc hB.size (.cells #[.string sel, .int .i64 args, .int .i64 temps, .int .i64 prim, .slice p ts.length c, .slice q n5 c5] 25)) (by omega) hh
  have HC := Lib.hid hc
  clear hc
  have HO := Lib.hid ho
  clear ho
  subst hodd
  have H0 := Lib.hid h0
  clear h0
  have H1 := Lib.hid h1
  clear h1
  have H2 := Lib.hid h2
  clear h2
  have H3 := Lib.hid h3
  clear h3
  have H4 := Lib.hid h4
  clear h4
  have d1 : decide (60 < ts.length) = false := decide_eq_false (by omega)
  have d2 : decide ((60 : Int) < (ts.length : Int)) = false := decide_eq_false (by omega)
  have d3 : ¬ (60 : Int) < (ts.length : Int) := by omega
  have d4 : ¬ 60 < ts.length := by omega
  have H9 := Lib.hid h9
  clear h9 hm
  go_enter Try.func9, Try.ntmps9
  go_wp2_with (first | (go_at_call 17; (with_reducible refine (inn_any _ _ _ _).mono ?_); (first | rw [H0.out] | rw [H1.out] | rw [H2.out] | rw [H3.out] | rw [H4.out] | rw [H9.out]); rintro e wa ⟨rfl, hwa⟩; replace hwa := hwa.symm; subst hwa) | (go_at_call 18; (with_reducible refine HC.out.mono ?_); rw [HO.out]; rintro e w3 ⟨rfl, hb3⟩; have c0 : w3.cell? ⟨w.heap.size, 0, none⟩ = some (.string sel) := (hb3.cell (p := ⟨w.heap.size, 0, none⟩) (by go_size)).trans (by simp [go_sem]); have c1 : w3.cell? ⟨w.heap.size, 1, none⟩ = some (.int .i64 args) := (hb3.cell (p := ⟨w.heap.size, 1, none⟩) (by go_size)).trans (by simp [go_sem]); have c2 : w3.cell? ⟨w.heap.size, 2, none⟩ = some (.int .i64 temps) := (hb3.cell (p := ⟨w.heap.size, 2, none⟩) (by go_size)).trans (by simp [go_sem]); have c3 : w3.cell? ⟨w.heap.size, 3, none⟩ = some (.int .i64 prim) := (hb3.cell (p := ⟨w.heap.size, 3, none⟩) (by go_size)).trans (by simp [go_sem]); have c4 : w3.cell? ⟨w.heap.size, 4, none⟩ = some (.slice p ts.length c) := (hb3.cell (p := ⟨w.heap.size, 4, none⟩) (by go_size)).trans (by simp [go_sem]); have c5' : w3.cell? ⟨w.heap.size, 5, none⟩ = some (.slice q n5 c5) := (hb3.cell (p := ⟨w.heap.size, 5, none⟩) (by go_size)).trans (by simp [go_sem]); have hz3 : w.heap.size < w3.heap.size := Nat.lt_of_lt_of_le (by go_size) hb3.size))
  go_ret2
  exact ⟨rfl, (((Below.refl _ _).alloc (Nat.le_refl _) _).trans (hb3.mono (by go_size)))⟩
end Go.Proofs.Ytnjfjebmkajpbaa

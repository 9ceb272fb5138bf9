/- Contracts: literals, of the program. -/
import Derived.Test.YtnjfjebmkajpbaaI1
namespace Go.Proofs.Ytnjfjebmkajpbaa
open Go.ChangeShapes Go.WideShapes Go.ChangeAt Go.RowKit
set_option linter.unusedVariables false
set_option linter.unusedSimpArgs false

theorem all_any (n : Nat) (P : Nat → Bool) : (List.range n).any (fun i => !P i) = !(List.range n).all P := by
  rw [List.any_eq_not_all_not]; simp
theorem range_all (ts : List LitT) (Q : LitT → Bool) : (List.range ts.length).all (fun i => match ts[i]? with | some t => Q t | none => true) = ts.all Q := by
  induction ts with
  | nil => simp
  | cons t ts ih => simp only [List.length_cons, List.range_succ_eq_map, List.all_cons, List.all_map, List.getElem?_cons_zero]; rw [← ih]; congr 1
def oddL (deep : Int) (ts : List LitT) : Nat → Bool := fun i => !(match ts[i]? with | some t => okL deep t | none => true)
theorem odd_all (deep : Int) (ts : List LitT) : (List.range ts.length).any (oddL deep ts) = !ts.all (okL deep) := by
  unfold oddL; rw [all_any, range_all]
theorem odd_at {deep : Int} {ts : List LitT} {i : Nat} (h : i < ts.length) : oddL deep ts i = !okL deep ts[i] := by
  unfold oddL; rw [List.getElem?_eq_getElem h]
def LitOk (w0 : World) (t : LitT) (f : Nat → Value) : Prop := ∀ (w : World) (deep : Int), Below w0.heap.size w0 w → deep ≤ 20 → (hgt t : Int) - 1000000 ≤ deep → Calls Try.prog 20 #[.agg #[f 0, f 1, f 2, f 3], .int .i64 deep] w fun e w' => e = .returned (.bool (okL deep t)) ∧ Below w.heap.size w w'
theorem typed_lits {w : World} {ts : List LitT} {F : Nat → Nat → Value} (h : ∀ (i : Nat) (h : i < ts.length), IsLit w ts[i] (F i)) : Typed ts.length F := by
  intro i hi
  obtain ⟨p, c, G, e0, e1, e2, e3, _⟩ := (h i hi).cells
  exact ⟨_, _, _, _, _, _, e0, e1, e2, e3⟩
set_option maxHeartbeats 8000000 in
set_option maxRecDepth 100000 in
theorem lit1_any {w0 w : World} {t : LitT} {f : Nat → Value} (hl : IsLit w0 t f) (hk : LitOk w0 t f) (b : Nat) (deep : Int) (hB : Below w0.heap.size w0 w) (hb : w.cell? ⟨b, 0, none⟩ = some (.int .i64 deep)) (hd : deep ≤ 20) (hh : (hgt t : Int) - 1000000 ≤ deep - 1) (hlow : -2000000 ≤ deep) :
    Calls Try.prog 34 #[.agg #[f 0, f 1, f 2, f 3], .pointer (some ⟨b, 0, none⟩)] w fun e w' => e = .returned (.bool (!okL (deep - 1) t)) ∧ Below w.heap.size w w' := by
  obtain ⟨p, c, G, e0, e1, e2, e3, _⟩ := hl.cells
  have hlt := cell_lt hb
  rw [e0, e1, e2, e3]
  have hc : ∀ o, Calls Try.prog 20 #[.agg #[.int .i64 t.kind, .string t.text, .int .i64 t.num, .slice p t.kids.length c], .int .i64 (deep - 1)] (w.alloc o) fun e w' => e = .returned (.bool (okL (deep - 1) t)) ∧ Below (w.alloc o).heap.size (w.alloc o) w' := fun o => by
    have := hk (w.alloc o) (deep - 1) (hB.alloc hB.size _) (by omega) hh
    rw [e0, e1, e2, e3] at this
    exact this
  have HC := Lib.hid hc
  clear hc hk e0 e1 e2 e3 hl hh
  go_enter Try.func34, Try.ntmps34
  go_wp2_with (go_at_call 20; (with_reducible refine (HC.out _).mono ?_); rintro e w3 ⟨rfl, hb3⟩)
  go_ret
  exact ⟨rfl, ((Below.refl _ _).alloc (Nat.le_refl _) _).trans (hb3.mono (by go_size))⟩

set_option maxHeartbeats 8000000 in
set_option maxRecDepth 100000 in
theorem lit_1a (n : Int) (p : Option Addr) (c : Nat) (w : World) (deep : Int)  :
    Calls Try.prog 20 #[.agg #[.int .i64 1, .string ⟨#[]⟩, .int .i64 n, .slice p 0 c], .int .i64 deep] w fun e w' => e = .returned (.bool (inB n (-1152921504606846976) 1152921504606846976)) ∧ Below w.heap.size w w' := by
  go_enter Try.func20, Try.ntmps20
  go_wp2_with (go_at_call 17; (with_reducible refine (inn_any _ _ _ _).mono ?_); rintro e wa ⟨rfl, hwa⟩; replace hwa := hwa.symm; subst hwa)
  go_ret
  exact ⟨ret_bool (by first | rfl | (simp; done) | (simp; omega)), by (repeat' (first | (with_reducible exact Below.refl _ _) | (with_reducible assumption) | (with_reducible refine below_drewN ?_ _) | (with_reducible refine Below.alloc ?_ ?_ _) | (with_reducible refine Below.drew ?_) | (with_reducible refine Below.setCell ?_ ?_ _) | go_size))⟩

set_option maxHeartbeats 8000000 in
set_option maxRecDepth 100000 in
theorem lit_1b (n : Int)(m : Nat) (p : Option Addr) (c : Nat) (w : World) (deep : Int) (hm : m ≠ 0) :
    Calls Try.prog 20 #[.agg #[.int .i64 1, .string ⟨#[]⟩, .int .i64 n, .slice p m c], .int .i64 deep] w fun e w' => e = .returned (.bool false) ∧ Below w.heap.size w w' := by
  have m1 : ((m : Int) == 0) = false := by simp; omega
  have m2 : ¬ m = 0 := hm
  go_enter Try.func20, Try.ntmps20
  go_wp2_with fail
  go_ret
  exact ⟨ret_bool (by first | rfl | (simp; done) | (simp; omega)), by (repeat' (first | (with_reducible exact Below.refl _ _) | (with_reducible assumption) | (with_reducible refine below_drewN ?_ _) | (with_reducible refine Below.alloc ?_ ?_ _) | (with_reducible refine Below.drew ?_) | (with_reducible refine Below.setCell ?_ ?_ _) | go_size))⟩

set_option maxHeartbeats 8000000 in
set_option maxRecDepth 100000 in
theorem lit_1c (s : ByteArray)(n : Int)(m : Nat) (p : Option Addr) (c : Nat) (w : World) (deep : Int) (hs0 : s.size ≠ 0) :
    Calls Try.prog 20 #[.agg #[.int .i64 1, .string s, .int .i64 n, .slice p m c], .int .i64 deep] w fun e w' => e = .returned (.bool false) ∧ Below w.heap.size w w' := by
  have s4 : ¬ s.toList = [] := fun h => by have := congrArg ByteArray.size ((toList_nil_iff_emptyBytes _).1 h); exact hs0 (by simpa using this)
  go_enter Try.func20, Try.ntmps20
  go_wp2_with fail
  go_ret
  exact ⟨ret_bool (by first | rfl | (simp; done) | (simp; omega)), by (repeat' (first | (with_reducible exact Below.refl _ _) | (with_reducible assumption) | (with_reducible refine below_drewN ?_ _) | (with_reducible refine Below.alloc ?_ ?_ _) | (with_reducible refine Below.drew ?_) | (with_reducible refine Below.setCell ?_ ?_ _) | go_size))⟩

set_option maxHeartbeats 8000000 in
set_option maxRecDepth 100000 in
theorem lit_2a (s : ByteArray) (p : Option Addr) (c : Nat) (w : World) (deep : Int) (hs : s.size ≤ 9223372036854775807) :
    Calls Try.prog 20 #[.agg #[.int .i64 2, .string s, .int .i64 0, .slice p 0 c], .int .i64 deep] w fun e w' => e = .returned (.bool (decide (s.size ≤ 250))) ∧ Below w.heap.size w w' := by
  go_enter Try.func20, Try.ntmps20
  go_wp2_with fail
  go_ret
  exact ⟨ret_bool (by first | rfl | (simp; done) | (simp; omega)), by (repeat' (first | (with_reducible exact Below.refl _ _) | (with_reducible assumption) | (with_reducible refine below_drewN ?_ _) | (with_reducible refine Below.alloc ?_ ?_ _) | (with_reducible refine Below.drew ?_) | (with_reducible refine Below.setCell ?_ ?_ _) | go_size))⟩

set_option maxHeartbeats 8000000 in
set_option maxRecDepth 100000 in
theorem lit_2b (s : ByteArray)(m : Nat) (p : Option Addr) (c : Nat) (w : World) (deep : Int) (hs : s.size ≤ 9223372036854775807)(hm : m ≠ 0) :
    Calls Try.prog 20 #[.agg #[.int .i64 2, .string s, .int .i64 0, .slice p m c], .int .i64 deep] w fun e w' => e = .returned (.bool false) ∧ Below w.heap.size w w' := by
  have m1 : ((m : Int) == 0) = false := by simp; omega
  have m2 : ¬ m = 0 := hm
  go_enter Try.func20, Try.ntmps20
  go_wp2_with fail
  go_ret
  exact ⟨ret_bool (by first | rfl | (simp; done) | (simp; omega)), by (repeat' (first | (with_reducible exact Below.refl _ _) | (with_reducible assumption) | (with_reducible refine below_drewN ?_ _) | (with_reducible refine Below.alloc ?_ ?_ _) | (with_reducible refine Below.drew ?_) | (with_reducible refine Below.setCell ?_ ?_ _) | go_size))⟩

set_option maxHeartbeats 8000000 in
set_option maxRecDepth 100000 in
theorem lit_2c (s : ByteArray)(m : Nat)(n : Int) (p : Option Addr) (c : Nat) (w : World) (deep : Int) (hs : s.size ≤ 9223372036854775807)(hn : n ≠ 0) :
    Calls Try.prog 20 #[.agg #[.int .i64 2, .string s, .int .i64 n, .slice p m c], .int .i64 deep] w fun e w' => e = .returned (.bool false) ∧ Below w.heap.size w w' := by
  have n1 : (n == 0) = false := by simp; omega
  go_enter Try.func20, Try.ntmps20
  go_wp2_with fail
  go_ret
  exact ⟨ret_bool (by first | rfl | (simp; done) | (simp; omega)), by (repeat' (first | (with_reducible exact Below.refl _ _) | (with_reducible assumption) | (with_reducible refine below_drewN ?_ _) | (with_reducible refine Below.alloc ?_ ?_ _) | (with_reducible refine Below.drew ?_) | (with_reducible refine Below.setCell ?_ ?_ _) | go_size))⟩

set_option maxHeartbeats 8000000 in
set_option maxRecDepth 100000 in
theorem lit_3a (s : ByteArray) (p : Option Addr) (c : Nat) (w : World) (deep : Int) (hs : s.size ≤ 9223372036854775807) :
    Calls Try.prog 20 #[.agg #[.int .i64 3, .string s, .int .i64 0, .slice p 0 c], .int .i64 deep] w fun e w' => e = .returned (.bool (inB (s.size : Int) 1 60)) ∧ Below w.heap.size w w' := by
  go_enter Try.func20, Try.ntmps20
  go_wp2_with (go_at_call 17; (with_reducible refine (inn_any _ _ _ _).mono ?_); rintro e wa ⟨rfl, hwa⟩; replace hwa := hwa.symm; subst hwa)
  go_ret
  exact ⟨ret_bool (by first | rfl | (simp; done) | (simp; omega)), by (repeat' (first | (with_reducible exact Below.refl _ _) | (with_reducible assumption) | (with_reducible refine below_drewN ?_ _) | (with_reducible refine Below.alloc ?_ ?_ _) | (with_reducible refine Below.drew ?_) | (with_reducible refine Below.setCell ?_ ?_ _) | go_size))⟩

set_option maxHeartbeats 8000000 in
set_option maxRecDepth 100000 in
theorem lit_3b (s : ByteArray)(m : Nat) (p : Option Addr) (c : Nat) (w : World) (deep : Int) (hs : s.size ≤ 9223372036854775807)(hm : m ≠ 0) :
    Calls Try.prog 20 #[.agg #[.int .i64 3, .string s, .int .i64 0, .slice p m c], .int .i64 deep] w fun e w' => e = .returned (.bool false) ∧ Below w.heap.size w w' := by
  have m1 : ((m : Int) == 0) = false := by simp; omega
  have m2 : ¬ m = 0 := hm
  go_enter Try.func20, Try.ntmps20
  go_wp2_with fail
  go_ret
  exact ⟨ret_bool (by first | rfl | (simp; done) | (simp; omega)), by (repeat' (first | (with_reducible exact Below.refl _ _) | (with_reducible assumption) | (with_reducible refine below_drewN ?_ _) | (with_reducible refine Below.alloc ?_ ?_ _) | (with_reducible refine Below.drew ?_) | (with_reducible refine Below.setCell ?_ ?_ _) | go_size))⟩

set_option maxHeartbeats 8000000 in
set_option maxRecDepth 100000 in
theorem lit_3c (s : ByteArray)(m : Nat)(n : Int) (p : Option Addr) (c : Nat) (w : World) (deep : Int) (hs : s.size ≤ 9223372036854775807)(hn : n ≠ 0) :
    Calls Try.prog 20 #[.agg #[.int .i64 3, .string s, .int .i64 n, .slice p m c], .int .i64 deep] w fun e w' => e = .returned (.bool false) ∧ Below w.heap.size w w' := by
  have n1 : (n == 0) = false := by simp; omega
  go_enter Try.func20, Try.ntmps20
  go_wp2_with fail
  go_ret
  exact ⟨ret_bool (by first | rfl | (simp; done) | (simp; omega)), by (repeat' (first | (with_reducible exact Below.refl _ _) | (with_reducible assumption) | (with_reducible refine below_drewN ?_ _) | (with_reducible refine Below.alloc ?_ ?_ _) | (with_reducible refine Below.drew ?_) | (with_reducible refine Below.setCell ?_ ?_ _) | go_size))⟩

set_option maxHeartbeats 8000000 in
set_option maxRecDepth 100000 in
theorem lit_odd (s : ByteArray) (n : Int) (m : Nat) (k : Int) (p : Option Addr) (c : Nat) (w : World) (deep : Int) (h1 : k ≠ 1) (h2 : k ≠ 2) (h3 : k ≠ 3) (h4 : k ≠ 4) :
    Calls Try.prog 20 #[.agg #[.int .i64 k, .string s, .int .i64 n, .slice p m c], .int .i64 deep] w fun e w' => e = .returned (.bool false) ∧ Below w.heap.size w w' := by
  have d1 : (k == 1) = false := by simp; omega
  have d2 : (k == 2) = false := by simp; omega
  have d3 : (k == 3) = false := by simp; omega
  have d4 : (k == 4) = false := by simp; omega
  go_enter Try.func20, Try.ntmps20
  go_wp2
  go_ret
  exact ⟨rfl, by (repeat' (first | (with_reducible exact Below.refl _ _) | (with_reducible assumption) | (with_reducible refine below_drewN ?_ _) | (with_reducible refine Below.alloc ?_ ?_ _) | (with_reducible refine Below.drew ?_) | (with_reducible refine Below.setCell ?_ ?_ _) | go_size))⟩

set_option maxHeartbeats 8000000 in
set_option maxRecDepth 100000 in
theorem lit_4a  (m : Nat) (p : Option Addr) (c : Nat) (w : World) (deep : Int) (odd : Bool) (hf : Calls Try.prog 18 #[.slice p m c, .func (.func 34) #[] #[.pointer (some ⟨w.heap.size + 1, 0, none⟩)]] ((w.alloc (.cells #[.int .i64 4, .string ⟨#[]⟩, .int .i64 0, .slice p m c] 42)).alloc (.cells #[.int .i64 deep] 3)) fun e w' => e = .returned (.bool odd) ∧ Below ((w.alloc (.cells #[.int .i64 4, .string ⟨#[]⟩, .int .i64 0, .slice p m c] 42)).alloc (.cells #[.int .i64 deep] 3)).heap.size ((w.alloc (.cells #[.int .i64 4, .string ⟨#[]⟩, .int .i64 0, .slice p m c] 42)).alloc (.cells #[.int .i64 deep] 3)) w') (hc1 : m ≤ c) (hc2 : c ≤ 9223372036854775807)(hd0 : 0 < deep)(hl : m ≤ 250) :
    Calls Try.prog 20 #[.agg #[.int .i64 4, .string ⟨#[]⟩, .int .i64 0, .slice p m c], .int .i64 deep] w fun e w' => e = .returned (.bool (!odd)) ∧ Below w.heap.size w w' := by
  have HF := Lib.hid hf
  clear hf
  have d0 : decide (0 < deep) = true := decide_eq_true hd0
  have l0 : decide ((m : Int) ≤ 250) = true := decide_eq_true (by omega)
  have l2 : decide (m ≤ 250) = true := decide_eq_true (by omega)
  go_enter Try.func20, Try.ntmps20
  go_wp2_with (go_at_call 18; (with_reducible refine HF.out.mono ?_); rintro e w3 ⟨rfl, hb3⟩; have c0 : w3.cell? ⟨w.heap.size, 0, none⟩ = some (.int .i64 4) := (hb3.cell (p := ⟨w.heap.size, 0, none⟩) (by go_size)).trans (by simp [go_sem]); have c1 : w3.cell? ⟨w.heap.size, 1, none⟩ = some (.string ⟨#[]⟩) := (hb3.cell (p := ⟨w.heap.size, 1, none⟩) (by go_size)).trans (by simp [go_sem]); have c2 : w3.cell? ⟨w.heap.size, 2, none⟩ = some (.int .i64 0) := (hb3.cell (p := ⟨w.heap.size, 2, none⟩) (by go_size)).trans (by simp [go_sem]); have c3 : w3.cell? ⟨w.heap.size, 3, none⟩ = some (.slice p m c) := (hb3.cell (p := ⟨w.heap.size, 3, none⟩) (by go_size)).trans (by simp [go_sem]); have cd : w3.cell? ⟨w.heap.size + 1, 0, none⟩ = some (.int .i64 deep) := (hb3.cell (p := ⟨w.heap.size + 1, 0, none⟩) (by go_size)).trans (by simp [go_sem]))
  go_ret
  exact ⟨ret_bool (by first | rfl | (simp; done) | (simp; omega)), (((Below.refl _ _).alloc (Nat.le_refl _) _).alloc (by go_size) _).trans (hb3.mono (by go_size))⟩

set_option maxHeartbeats 8000000 in
set_option maxRecDepth 100000 in
theorem lit_4b  (m : Nat) (p : Option Addr) (c : Nat) (w : World) (deep : Int) (odd : Bool) (hf : Calls Try.prog 18 #[.slice p m c, .func (.func 34) #[] #[.pointer (some ⟨w.heap.size + 1, 0, none⟩)]] ((w.alloc (.cells #[.int .i64 4, .string ⟨#[]⟩, .int .i64 0, .slice p m c] 42)).alloc (.cells #[.int .i64 deep] 3)) fun e w' => e = .returned (.bool odd) ∧ Below ((w.alloc (.cells #[.int .i64 4, .string ⟨#[]⟩, .int .i64 0, .slice p m c] 42)).alloc (.cells #[.int .i64 deep] 3)).heap.size ((w.alloc (.cells #[.int .i64 4, .string ⟨#[]⟩, .int .i64 0, .slice p m c] 42)).alloc (.cells #[.int .i64 deep] 3)) w') (hc1 : m ≤ c) (hc2 : c ≤ 9223372036854775807)(hd0 : 0 < deep)(hl : ¬ m ≤ 250) :
    Calls Try.prog 20 #[.agg #[.int .i64 4, .string ⟨#[]⟩, .int .i64 0, .slice p m c], .int .i64 deep] w fun e w' => e = .returned (.bool false) ∧ Below w.heap.size w w' := by
  have HF := Lib.hid hf
  clear hf
  have d0 : decide (0 < deep) = true := decide_eq_true hd0
  have l0 : decide ((m : Int) ≤ 250) = false := decide_eq_false (by omega)
  have l2 : decide (m ≤ 250) = false := decide_eq_false (by omega)
  go_enter Try.func20, Try.ntmps20
  go_wp2_with (go_at_call 18; (with_reducible refine HF.out.mono ?_); rintro e w3 ⟨rfl, hb3⟩; have c0 : w3.cell? ⟨w.heap.size, 0, none⟩ = some (.int .i64 4) := (hb3.cell (p := ⟨w.heap.size, 0, none⟩) (by go_size)).trans (by simp [go_sem]); have c1 : w3.cell? ⟨w.heap.size, 1, none⟩ = some (.string ⟨#[]⟩) := (hb3.cell (p := ⟨w.heap.size, 1, none⟩) (by go_size)).trans (by simp [go_sem]); have c2 : w3.cell? ⟨w.heap.size, 2, none⟩ = some (.int .i64 0) := (hb3.cell (p := ⟨w.heap.size, 2, none⟩) (by go_size)).trans (by simp [go_sem]); have c3 : w3.cell? ⟨w.heap.size, 3, none⟩ = some (.slice p m c) := (hb3.cell (p := ⟨w.heap.size, 3, none⟩) (by go_size)).trans (by simp [go_sem]); have cd : w3.cell? ⟨w.heap.size + 1, 0, none⟩ = some (.int .i64 deep) := (hb3.cell (p := ⟨w.heap.size + 1, 0, none⟩) (by go_size)).trans (by simp [go_sem]))
  go_ret
  exact ⟨ret_bool (by first | rfl | (simp; done) | (simp; omega)), (((Below.refl _ _).alloc (Nat.le_refl _) _).alloc (by go_size) _).trans (hb3.mono (by go_size))⟩

set_option maxHeartbeats 8000000 in
set_option maxRecDepth 100000 in
theorem lit_4c  (m : Nat) (p : Option Addr) (c : Nat) (w : World) (deep : Int) (odd : Bool) (hf : Calls Try.prog 18 #[.slice p m c, .func (.func 34) #[] #[.pointer (some ⟨w.heap.size + 1, 0, none⟩)]] ((w.alloc (.cells #[.int .i64 4, .string ⟨#[]⟩, .int .i64 0, .slice p m c] 42)).alloc (.cells #[.int .i64 deep] 3)) fun e w' => e = .returned (.bool odd) ∧ Below ((w.alloc (.cells #[.int .i64 4, .string ⟨#[]⟩, .int .i64 0, .slice p m c] 42)).alloc (.cells #[.int .i64 deep] 3)).heap.size ((w.alloc (.cells #[.int .i64 4, .string ⟨#[]⟩, .int .i64 0, .slice p m c] 42)).alloc (.cells #[.int .i64 deep] 3)) w') (hc1 : m ≤ c) (hc2 : c ≤ 9223372036854775807)(hd0 : ¬ 0 < deep) :
    Calls Try.prog 20 #[.agg #[.int .i64 4, .string ⟨#[]⟩, .int .i64 0, .slice p m c], .int .i64 deep] w fun e w' => e = .returned (.bool false) ∧ Below w.heap.size w w' := by
  have HF := Lib.hid hf
  clear hf
  have d0 : decide (0 < deep) = false := decide_eq_false hd0
  go_enter Try.func20, Try.ntmps20
  go_wp2_with (go_at_call 18; (with_reducible refine HF.out.mono ?_); rintro e w3 ⟨rfl, hb3⟩; have c0 : w3.cell? ⟨w.heap.size, 0, none⟩ = some (.int .i64 4) := (hb3.cell (p := ⟨w.heap.size, 0, none⟩) (by go_size)).trans (by simp [go_sem]); have c1 : w3.cell? ⟨w.heap.size, 1, none⟩ = some (.string ⟨#[]⟩) := (hb3.cell (p := ⟨w.heap.size, 1, none⟩) (by go_size)).trans (by simp [go_sem]); have c2 : w3.cell? ⟨w.heap.size, 2, none⟩ = some (.int .i64 0) := (hb3.cell (p := ⟨w.heap.size, 2, none⟩) (by go_size)).trans (by simp [go_sem]); have c3 : w3.cell? ⟨w.heap.size, 3, none⟩ = some (.slice p m c) := (hb3.cell (p := ⟨w.heap.size, 3, none⟩) (by go_size)).trans (by simp [go_sem]); have cd : w3.cell? ⟨w.heap.size + 1, 0, none⟩ = some (.int .i64 deep) := (hb3.cell (p := ⟨w.heap.size + 1, 0, none⟩) (by go_size)).trans (by simp [go_sem]))
  go_ret
  exact ⟨ret_bool (by first | rfl | (simp; done) | (simp; omega)), (((Below.refl _ _).alloc (Nat.le_refl _) _).alloc (by go_size) _).trans (hb3.mono (by go_size))⟩

set_option maxHeartbeats 8000000 in
set_option maxRecDepth 100000 in
theorem lit_4d (s : ByteArray) (m : Nat) (p : Option Addr) (c : Nat) (w : World) (deep : Int) (odd : Bool) (hf : Calls Try.prog 18 #[.slice p m c, .func (.func 34) #[] #[.pointer (some ⟨w.heap.size + 1, 0, none⟩)]] ((w.alloc (.cells #[.int .i64 4, .string s, .int .i64 0, .slice p m c] 42)).alloc (.cells #[.int .i64 deep] 3)) fun e w' => e = .returned (.bool odd) ∧ Below ((w.alloc (.cells #[.int .i64 4, .string s, .int .i64 0, .slice p m c] 42)).alloc (.cells #[.int .i64 deep] 3)).heap.size ((w.alloc (.cells #[.int .i64 4, .string s, .int .i64 0, .slice p m c] 42)).alloc (.cells #[.int .i64 deep] 3)) w') (hc1 : m ≤ c) (hc2 : c ≤ 9223372036854775807)(hs0 : s.size ≠ 0) :
    Calls Try.prog 20 #[.agg #[.int .i64 4, .string s, .int .i64 0, .slice p m c], .int .i64 deep] w fun e w' => e = .returned (.bool false) ∧ Below w.heap.size w w' := by
  have HF := Lib.hid hf
  clear hf
  have s4 : ¬ s.toList = [] := fun h => by have := congrArg ByteArray.size ((toList_nil_iff_emptyBytes _).1 h); exact hs0 (by simpa using this)
  go_enter Try.func20, Try.ntmps20
  go_wp2_with (go_at_call 18; (with_reducible refine HF.out.mono ?_); rintro e w3 ⟨rfl, hb3⟩; have c0 : w3.cell? ⟨w.heap.size, 0, none⟩ = some (.int .i64 4) := (hb3.cell (p := ⟨w.heap.size, 0, none⟩) (by go_size)).trans (by simp [go_sem]); have c1 : w3.cell? ⟨w.heap.size, 1, none⟩ = some (.string s) := (hb3.cell (p := ⟨w.heap.size, 1, none⟩) (by go_size)).trans (by simp [go_sem]); have c2 : w3.cell? ⟨w.heap.size, 2, none⟩ = some (.int .i64 0) := (hb3.cell (p := ⟨w.heap.size, 2, none⟩) (by go_size)).trans (by simp [go_sem]); have c3 : w3.cell? ⟨w.heap.size, 3, none⟩ = some (.slice p m c) := (hb3.cell (p := ⟨w.heap.size, 3, none⟩) (by go_size)).trans (by simp [go_sem]); have cd : w3.cell? ⟨w.heap.size + 1, 0, none⟩ = some (.int .i64 deep) := (hb3.cell (p := ⟨w.heap.size + 1, 0, none⟩) (by go_size)).trans (by simp [go_sem]))
  go_ret
  exact ⟨ret_bool (by first | rfl | (simp; done) | (simp; omega)), (((Below.refl _ _).alloc (Nat.le_refl _) _).alloc (by go_size) _).trans (hb3.mono (by go_size))⟩

set_option maxHeartbeats 8000000 in
set_option maxRecDepth 100000 in
theorem lit_4e (s : ByteArray)(n : Int) (m : Nat) (p : Option Addr) (c : Nat) (w : World) (deep : Int) (odd : Bool) (hf : Calls Try.prog 18 #[.slice p m c, .func (.func 34) #[] #[.pointer (some ⟨w.heap.size + 1, 0, none⟩)]] ((w.alloc (.cells #[.int .i64 4, .string s, .int .i64 n, .slice p m c] 42)).alloc (.cells #[.int .i64 deep] 3)) fun e w' => e = .returned (.bool odd) ∧ Below ((w.alloc (.cells #[.int .i64 4, .string s, .int .i64 n, .slice p m c] 42)).alloc (.cells #[.int .i64 deep] 3)).heap.size ((w.alloc (.cells #[.int .i64 4, .string s, .int .i64 n, .slice p m c] 42)).alloc (.cells #[.int .i64 deep] 3)) w') (hc1 : m ≤ c) (hc2 : c ≤ 9223372036854775807)(hn : n ≠ 0) :
    Calls Try.prog 20 #[.agg #[.int .i64 4, .string s, .int .i64 n, .slice p m c], .int .i64 deep] w fun e w' => e = .returned (.bool false) ∧ Below w.heap.size w w' := by
  have HF := Lib.hid hf
  clear hf
  have n1 : (n == 0) = false := by simp; omega
  go_enter Try.func20, Try.ntmps20
  go_wp2_with (go_at_call 18; (with_reducible refine HF.out.mono ?_); rintro e w3 ⟨rfl, hb3⟩; have c0 : w3.cell? ⟨w.heap.size, 0, none⟩ = some (.int .i64 4) := (hb3.cell (p := ⟨w.heap.size, 0, none⟩) (by go_size)).trans (by simp [go_sem]); have c1 : w3.cell? ⟨w.heap.size, 1, none⟩ = some (.string s) := (hb3.cell (p := ⟨w.heap.size, 1, none⟩) (by go_size)).trans (by simp [go_sem]); have c2 : w3.cell? ⟨w.heap.size, 2, none⟩ = some (.int .i64 n) := (hb3.cell (p := ⟨w.heap.size, 2, none⟩) (by go_size)).trans (by simp [go_sem]); have c3 : w3.cell? ⟨w.heap.size, 3, none⟩ = some (.slice p m c) := (hb3.cell (p := ⟨w.heap.size, 3, none⟩) (by go_size)).trans (by simp [go_sem]); have cd : w3.cell? ⟨w.heap.size + 1, 0, none⟩ = some (.int .i64 deep) := (hb3.cell (p := ⟨w.heap.size + 1, 0, none⟩) (by go_size)).trans (by simp [go_sem]))
  go_ret
  exact ⟨ret_bool (by first | rfl | (simp; done) | (simp; omega)), (((Below.refl _ _).alloc (Nat.le_refl _) _).alloc (by go_size) _).trans (hb3.mono (by go_size))⟩
end Go.Proofs.Ytnjfjebmkajpbaa

/- Chapter 06: rows of tokens; the first bytes of a source; tokens that are the same. -/
import Derived.Test.YtdcibeagljeioaaR22
namespace Go.Proofs.Ytdcibeagljeioaa
open Go.ChangeShapes Go.WideShapes Go.ChangeAt Go.RowKit
set_option linter.unusedVariables false
set_option linter.unusedSimpArgs false
def cellT (t : ATok) (j : Nat) : Value := (tokCells t).getD j undef
theorem row_at : ∀ (A : List ATok) (i j : Nat), i < A.length → j < 4 → (rowCells A)[i * 4 + j]? = some (cellT (A.getD i tz) j)
  | [], i, j, hi, hj => by simp at hi
  | a :: r, 0, j, hi, hj => by
    have hl : j < (tokCells a).length := hj
    show (tokCells a ++ rowCells r)[0 * 4 + j]? = _
    rw [Nat.zero_mul, Nat.zero_add, List.getElem?_append_left hl, List.getElem?_eq_getElem hl]
    unfold cellT
    rw [List.getD_cons_zero, List.getD_eq_getElem?_getD, List.getElem?_eq_getElem hl]; rfl
  | a :: r, i + 1, j, hi, hj => by
    have ih := row_at r i j (by simpa using hi) hj
    show (tokCells a ++ rowCells r)[(i + 1) * 4 + j]? = _
    rw [show (i + 1) * 4 + j = (tokCells a).length + (i * 4 + j) by show _ = 4 + _; omega, List.getElem?_append_right (by omega), Nat.add_sub_cancel_left, ih]
    rfl
/-- a slice that reads as tokens -/
def TokRow (w : World) (base : Nat) (v : Value) (A : List ATok) : Prop :=
  ∃ p c, v = .slice p A.length c ∧ A.length ≤ c ∧ c ≤ 9223372036854775807 ∧ Row w p A.length 4 (fun i j => cellT (A.getD i tz) j) ∧ ∀ b off, p = some ⟨b, off, none⟩ → base ≤ b
theorem tok_row {X : World} {base : Nat} {v : Value} {A : List ATok} (h : X.ownsRow base 33 4 v A.length (rowCells A)) : TokRow X base v A := by
  rcases h.2 with ⟨rfl, hn⟩ | ⟨g, cap, cur, rfl, hg, hh, hn, hm, _⟩
  · have : A = [] := List.eq_nil_of_length_eq_zero hn
    subst this
    exact ⟨none, 0, rfl, by simp, by omega, fun h0 => absurd h0 (by simp), fun _ _ e => by cases e⟩
  · refine ⟨_, _, rfl, hn, hm, fun h0 => ⟨g, 0, rfl, (h.lt g rfl).2, fun i hi j hj => ?_⟩, fun b off e => by cases e; exact hg⟩
    rw [Nat.zero_add, h.cellAt (i * 4 + j) (by omega)]
    exact row_at A i j hi hj
theorem tok_row_nil (X : World) (base : Nat) : TokRow X base (.slice none 0 0) [] := ⟨none, 0, rfl, by simp, by omega, fun h0 => absurd h0 (by simp), fun _ _ e => by cases e⟩
def neqT (t u : ATok) : Bool := !(t.kind == u.kind && (t.text == u.text && (t.num == u.num && t.at_ == u.at_)))
def fewB (s : ByteArray) : ByteArray := if 400 < s.size then s.extract 0 400 else s
theorem few_any (s : ByteArray) (w : World) (hs : s.size ≤ 9223372036854775807) : Calls Try.prog 9 #[.string s] w fun e w' => e = .returned (.string (fewB s)) ∧ w' = w := by
  by_cases h : 400 < s.size
  · have F : Hid (fewB s = s.extract 0 400) := if_pos h
    have d : decide (400 < s.size) = true := decide_eq_true h
    have d' : decide ((400 : Int) < (s.size : Int)) = true := decide_eq_true (by omega)
    have b : (400 : Int) ≤ (s.size : Int) := by omega
    have b' : 400 ≤ s.size := by omega
    go_enter Try.func9, Try.ntmps9
    go_wp2
    go_ret
    exact ⟨by rw [F.out]; rfl, rfl⟩
  · have F : Hid (fewB s = s) := if_neg h
    have d : decide (400 < s.size) = false := decide_eq_false h
    have d' : decide ((400 : Int) < (s.size : Int)) = false := decide_eq_false (by omega)
    go_enter Try.func9, Try.ntmps9
    go_wp2
    go_ret
    exact ⟨by rw [F.out]; rfl, rfl⟩
theorem few_le (s : ByteArray) : (fewB s).size ≤ 400 := by
  unfold fewB
  split
  · simp; omega
  · omega
theorem neq33 (a : Int) (s : ByteArray) (n p : Int) (w : World) : (binOp .neq 33 (.agg #[.int .i64 a, .string s, .int .i64 n, .int .i64 p]) (.agg #[.int .i64 a, .string s, .int .i64 n, .int .i64 p])).run Try.prog w = .ok (.bool false) w := by
  simp [go_sem]
theorem row4 {w0 w : World} {p : Option Addr} {n k : Nat} {A : List ATok} (h : Row w0 p n 4 (fun i j => cellT (A.getD i tz) j)) (hk : k < n) (hb : Below w0.heap.size w0 w) :
    ∃ g off, p = some ⟨g, off, none⟩ ∧ g < w0.heap.size ∧ w.cell? ⟨g, off + k * 4, none⟩ = some (.int .i64 (A.getD k tz).kind) ∧ w.cell? ⟨g, off + k * 4 + 1, none⟩ = some (.string (strB (A.getD k tz).text)) ∧
      w.cell? ⟨g, off + k * 4 + 2, none⟩ = some (.int .i64 (A.getD k tz).num) ∧ w.cell? ⟨g, off + k * 4 + 3, none⟩ = some (.int .i64 ((A.getD k tz).at_ : Int)) := by
  obtain ⟨g, off, rfl, hgl, hc⟩ := h (by omega)
  exact ⟨g, off, rfl, hgl, (hb.cell (p := ⟨g, off + k * 4 + 0, none⟩) hgl).trans (hc k hk 0 (by omega)), (hb.cell (p := ⟨g, off + k * 4 + 1, none⟩) hgl).trans (hc k hk 1 (by omega)),
    (hb.cell (p := ⟨g, off + k * 4 + 2, none⟩) hgl).trans (hc k hk 2 (by omega)), (hb.cell (p := ⟨g, off + k * 4 + 3, none⟩) hgl).trans (hc k hk 3 (by omega))⟩
theorem same_any {w0 w : World} {b b' : Nat} {x y : Value} {A : List ATok} (hx : TokRow w0 b x A) (hy : TokRow w0 b' y A) (hn : A.length ≤ 100000) (hB : Below w0.heap.size w0 w) :
    Calls Try.prog 12 #[x, y] w fun e w' => e = .returned (.bool true) ∧ Below w.heap.size w w' := by
  obtain ⟨p, c, rfl, hc1, hc2, hA, _⟩ := hx
  obtain ⟨q, d, rfl, hd1, hd2, hA', _⟩ := hy
  have hI : Inv w0 w w w := Inv.start hB (Below.refl _ _)
  clear hB
  obtain ⟨n, hn'⟩ : ∃ n, A.length = n := ⟨_, rfl⟩
  rw [hn'] at hA hA' hn hc1 hd1 ⊢
  have HN := Lib.hid hn'
  clear hn'
  go_enter Try.func12, Try.ntmps12
  go_wp2_with fail
  go_loopw [5] (fun i wr => ∃ k : Nat, k ≤ n ∧ i = .int .i64 k ∧ Inv w0 w w wr) (fun i _ => n - (intOf i).toNat)
  case atStart => exact ⟨0, Nat.zero_le _, rfl, hI⟩
  case round =>
    clear hI
    obtain ⟨k, hk, rfl, hI⟩ := hrel
    by_cases hlt : k < n
    · have hlt' : decide (k < n) = true := decide_eq_true hlt
      obtain ⟨g, off, rfl, hgl, c0, c1, c2, c3⟩ := row4 hA hlt hI.b0
      obtain ⟨g', off', rfl, hgl', e0, e1, e2, e3⟩ := row4 hA' hlt hI.b0
      obtain ⟨t, ht⟩ : ∃ t, A.getD k tz = t := ⟨_, rfl⟩
      rw [ht] at c0 c1 c2 c3 e0 e1 e2 e3
      have hq := neq33
      clear hA hA' ht
      go_wp2_with fail
      go_quiet (fail)
      go_wp2
      go_roundw
      case rel => exact ⟨k + 1, by omega, by go_num, hI.go (by (repeat' (first | (with_reducible exact Below.refl _ _) | (with_reducible assumption) | (with_reducible refine below_drewN ?_ _) | (with_reducible refine Below.alloc ?_ ?_ _) | (with_reducible refine Below.drew ?_) | (with_reducible refine Below.setCell ?_ ?_ _) | go_size)))⟩
      case measure => simp [intOf]; omega
    · have hkn : k = n := by omega
      have hlt' : decide (k < n) = false := decide_eq_false hlt
      go_wp2
      go_ret
      exact ⟨rfl, hI.bw⟩
end Go.Proofs.Ytdcibeagljeioaa

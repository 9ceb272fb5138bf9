/- Chapter 06: words for the laws: cells of tokens; what is skipped at the beginning. -/
import Derived.Test.YtdcibeagljeioaaS3
namespace Go.Proofs.Ytdcibeagljeioaa
open Go.ChangeShapes Go.WideShapes Go.ChangeAt Go.RowKit
set_option linter.unusedVariables false
set_option linter.unusedSimpArgs false
theorem rskip0 (s : ByteArray) (w : World) (hs : s.size ≤ 100000) {k : Nat} {o : Bool} (hk : skipV s.data.toList = (k, o)) : Calls Try.prog 14 #[.string s, .int .i64 0] w fun e w' => e = .returned (.tuple #[.int .i64 (k : Int), .bool o]) ∧ w' = w := by
  have := rskip_any s 0 w hs (by omega)
  rw [List.drop_zero, hk, Nat.zero_add] at this
  exact this
/-- a token's cells, in a block of its own -/
theorem okrow {w0 w : World} {g n k : Nat} {A : List ATok} (h : Row w0 (some ⟨g, 0, none⟩) n 4 (fun i j => cellT (A.getD i tz) j)) (hg : g < w0.heap.size) (hk : k < n) (hb : Below w0.heap.size w0 w) :
    w.cell? ⟨g, k * 4, none⟩ = some (.int .i64 (A.getD k tz).kind) ∧ w.cell? ⟨g, k * 4 + 1, none⟩ = some (.string (strB (A.getD k tz).text)) ∧
      w.cell? ⟨g, k * 4 + 2, none⟩ = some (.int .i64 (A.getD k tz).num) ∧ w.cell? ⟨g, k * 4 + 3, none⟩ = some (.int .i64 ((A.getD k tz).at_ : Int)) := by
  obtain ⟨g', off, e, _, c0, c1, c2, c3⟩ := row4 h hk hb
  cases e
  simp only [Nat.zero_add] at c0 c1 c2 c3
  exact ⟨c0, c1, c2, c3⟩
theorem outV_ok {s : ByteArray} {A : List ATok} (hs : s.size ≤ 2000) (h : toksV s.data.toList = .ok A) : outV s = (A, 0, 0) := by
  unfold outV; rw [if_neg (by omega), h]
theorem toks_err0 : ∀ (f at_ : Nat) (l : Bs) (a : Nat) (x : Int), toksF f at_ l = .err a x → l.length < f → x ≠ 0
  | 0, at_, l, a, x, h, hf => by omega
  | f + 1, at_, l, a, x, h, hf => by
    have hk := skip_le l
    simp only [toksF] at h
    split at h
    · cases h; decide
    · split at h
      · cases h
      · cases hx : tokV (l.drop (skipV l).1) with
        | err e => rw [hx] at h; cases h; exact tok_errs hx
        | ok t n =>
          rw [hx] at h
          have hp := tok_pos hx
          simp only [List.length_drop] at hp
          simp only at h
          cases hy : toksF f (at_ + (skipV l).1 + n) (l.drop ((skipV l).1 + n)) with
          | err a' e =>
            rw [hy] at h
            cases h
            exact toks_err0 f _ _ _ _ hy (by simp; omega)
          | ok B => rw [hy] at h; cases h
end Go.Proofs.Ytdcibeagljeioaa

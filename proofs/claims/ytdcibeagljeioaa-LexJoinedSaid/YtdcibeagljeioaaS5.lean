/- Chapter 06: plain words for the laws of blanks. -/
import Derived.Test.YtdcibeagljeioaaS4
namespace Go.Proofs.Ytdcibeagljeioaa
open Go.ChangeShapes Go.WideShapes Go.ChangeAt Go.RowKit
set_option linter.unusedVariables false
set_option linter.unusedSimpArgs false
theorem toks_at : ∀ (f at_ : Nat) (l : Bs) (A : List ATok), toksF f at_ l = .ok A → l.length < f → ∀ k, k < A.length → at_ ≤ (A.getD k tz).at_ ∧ (A.getD k tz).at_ ≤ at_ + l.length
  | 0, at_, l, A, h, hf => by omega
  | f + 1, at_, l, A, h, hf => by
    have hk := skip_le l
    simp only [toksF] at h
    split at h
    · cases h
    · split at h
      · cases h
        intro k hk'
        have : k = 0 := by simpa using hk'
        subst this
        show at_ ≤ at_ + (skipV l).1 ∧ at_ + (skipV l).1 ≤ _
        omega
      · cases hx : tokV (l.drop (skipV l).1) with
        | err e => rw [hx] at h; cases h
        | ok t n =>
          rw [hx] at h
          have hp := tok_pos hx
          simp only [List.length_drop] at hp
          simp only at h
          cases hy : toksF f (at_ + (skipV l).1 + n) (l.drop ((skipV l).1 + n)) with
          | err a e => rw [hy] at h; cases h
          | ok B =>
            rw [hy] at h
            simp only [Toks.cons, Toks.ok.injEq] at h
            subst h
            intro k hk'
            cases k with
            | zero => show at_ ≤ at_ + (skipV l).1 ∧ at_ + (skipV l).1 ≤ _; omega
            | succ k =>
              have := toks_at f _ _ B hy (by simp; omega) k (by simpa using hk')
              simp only [List.length_drop] at this
              rw [List.getD_cons_succ]; omega
/-- blanks and a whole remark ahead -/
theorem toks_ahead {p : Bs} (hp : Whole p) (l : Bs) : toksV (p ++ l) = (toksV l).shift p.length := by
  unfold toksV
  rw [toks_pre hp, toks_fuel _ (l.length + 1) _ _ (by simp; omega) (by omega), toks_shift]
theorem ahead_whole (q : Bs) : Whole ([32, 9, 34] ++ q.filter (fun c => c != 34) ++ [34, 10]) := by
  have h1 : Whole [32, 9] := whole_app (whole_blank (by decide)) (whole_blank (by decide))
  have h2 := whole_rem (q := q.filter (fun c => c != 34)) (fun c hc => by have := (List.mem_filter.1 hc).2; simpa using this)
  have h3 : Whole [10] := whole_blank (by decide)
  have h := whole_app (whole_app h1 h2) h3
  simpa using h
theorem shift_getD (A : List ATok) (d k : Nat) (hk : k < A.length) : ((A.map (ATok.shift d)).getD k tz) = ATok.shift d (A.getD k tz) := by
  simp only [List.getD_eq_getElem?_getD, List.getElem?_map, List.getElem?_eq_getElem hk]
  rfl
theorem filter_snoc (r : ByteArray) (k : Nat) (h : k < r.size) : (r.data.toList.take (k + 1)).filter (fun c => c != 34) = (r.data.toList.take k).filter (fun c => c != 34) ++ if r[k] != 34 then [r[k]] else [] := by
  rw [List.take_succ_eq_append_getElem (by simpa using h), List.filter_append]
  congr 1
  show List.filter _ [r[k]] = _
  simp only [List.filter_cons, List.filter_nil]
theorem err_at : ∀ (f at_ : Nat) (l : Bs) (a : Nat) (x : Int), toksF f at_ l = .err a x → l.length < f → a ≤ at_ + l.length
  | 0, at_, l, a, x, h, hf => by omega
  | f + 1, at_, l, a, x, h, hf => by
    have hk := skip_le l
    simp only [toksF] at h
    split at h
    · cases h; omega
    · split at h
      · cases h
      · cases hx : tokV (l.drop (skipV l).1) with
        | err e => rw [hx] at h; cases h; omega
        | ok t n =>
          rw [hx] at h
          have hp := tok_pos hx
          simp only [List.length_drop] at hp
          simp only at h
          cases hy : toksF f (at_ + (skipV l).1 + n) (l.drop ((skipV l).1 + n)) with
          | err a' e =>
            rw [hy] at h
            cases h
            have := err_at f _ _ _ _ hy (by simp; omega)
            simp only [List.length_drop] at this
            omega
          | ok B => rw [hy] at h; cases h
end Go.Proofs.Ytdcibeagljeioaa

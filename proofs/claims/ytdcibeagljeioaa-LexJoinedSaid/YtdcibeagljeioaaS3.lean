/- Chapter 06: what both sides tell of a source. -/
import Derived.Test.YtdcibeagljeioaaS2
namespace Go.Proofs.Ytdcibeagljeioaa
open Go.ChangeShapes Go.WideShapes Go.ChangeAt Go.RowKit
set_option linter.unusedVariables false
set_option linter.unusedSimpArgs false
theorem toks_len : ∀ (f at_ : Nat) (l : Bs) (A : List ATok), toksF f at_ l = .ok A → A.length ≤ f
  | 0, at_, l, A, h => by cases h
  | f + 1, at_, l, A, h => by
    simp only [toksF] at h
    split at h
    · cases h
    · split at h
      · cases h; simp
      · cases hx : tokV (l.drop (skipV l).1) with
        | err e => rw [hx] at h; cases h
        | ok t n =>
          rw [hx] at h
          simp only at h
          cases hy : toksF f (at_ + (skipV l).1 + n) (l.drop ((skipV l).1 + n)) with
          | err a e => rw [hy] at h; cases h
          | ok B =>
            rw [hy] at h
            simp only [Toks.cons, Toks.ok.injEq] at h
            subst h
            have := toks_len f _ _ B hy
            simp; omega
/-- what Tokens tells: tokens, a place, an error -/
def outV (s : ByteArray) : List ATok × Int × Int := if 2000 < s.size then ([], 0, 12) else match toksV s.data.toList with | .err a x => ([], (a : Int), x) | .ok A => (A, 0, 0)
def AllPost (w : World) (s : ByteArray) (A : List ATok) (n x : Int) (e : Ending) (w' : World) : Prop :=
  ∃ p c, e = .returned (.tuple #[.slice p A.length c, .int .i64 n, .int .i64 x]) ∧ TokRow w' w.heap.size (.slice p A.length c) A ∧ A.length ≤ 100000 ∧ Below w.heap.size w w'
theorem all_post {s : ByteArray} {A : List ATok} {n x : Int} {w w' : World} {e : Ending} (hv : outV s = (A, n, x)) (h : TokensPost w s e w') : AllPost w s A n x e w' := by
  unfold outV at hv
  obtain ⟨hb, ⟨h2, rfl⟩ | ⟨h2, ⟨a', x', h3, _, rfl⟩ | ⟨A', v, h3, rfl, ho⟩⟩⟩ := h
  · rw [if_pos h2] at hv
    cases hv
    exact ⟨none, 0, rfl, tok_row_nil _ _, by simp, hb⟩
  · rw [if_neg (by omega), h3] at hv
    cases hv
    exact ⟨none, 0, rfl, tok_row_nil _ _, by simp, hb⟩
  · rw [if_neg (by omega), h3] at hv
    cases hv
    obtain ⟨p, c, rfl, hr⟩ := tok_row ho
    refine ⟨p, c, rfl, ⟨p, c, rfl, hr⟩, ?_, hb⟩
    have := toks_len _ _ _ _ h3
    have h4 : s.data.toList.length = s.size := rfl
    omega
theorem all_tok {s : ByteArray} {A : List ATok} {n x : Int} (w : World) (hv : outV s = (A, n, x)) (hs : s.size ≤ 9223372036854775807) : Calls Try.prog 10 #[.string s] w (AllPost w s A n x) :=
  (tokens_any s w hs).mono fun e w' h => all_post hv h
theorem all_rtok {s : ByteArray} {A : List ATok} {n x : Int} (w : World) (hv : outV s = (A, n, x)) (hs : s.size ≤ 9223372036854775807) : Calls Try.prog 11 #[.string s] w (AllPost w s A n x) :=
  (rtokens_any s w hs).mono fun e w' h => all_post hv h
theorem TokRow.below {w w' : World} {base : Nat} {v : Value} {A : List ATok} (h : TokRow w base v A) (hb : Below w.heap.size w w') : TokRow w' base v A := by
  obtain ⟨p, c, rfl, h1, h2, h3, h4⟩ := h
  exact ⟨p, c, rfl, h1, h2, h3.below hb, h4⟩
end Go.Proofs.Ytdcibeagljeioaa

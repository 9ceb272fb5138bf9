/- Chapter 06: the reference's token: a text. -/
import Derived.Test.YtdcibeagljeioaaR12
namespace Go.Proofs.Ytdcibeagljeioaa
open Go.ChangeShapes Go.WideShapes Go.ChangeAt Go.RowKit
set_option linter.unusedVariables false
set_option linter.unusedSimpArgs false
theorem rtextR (s : ByteArray) (i : Nat) (w : World) (hs : s.size ≤ 100000) (hi : i + 1 ≤ s.size) (h39 : byteU s i = 39) :
    Calls Try.prog 34 #[.string s, .agg #[.int .i64 5, .string ⟨#[]⟩, .int .i64 0, .int .i64 i]] w (RPost (tokV (s.data.toList.drop i)) w i i) := by
  refine (rtext_any s i 5 0 w hs hi).mono ?_
  have hc : s.data.toList.drop i = 39 :: s.data.toList.drop (i + 1) := by rw [byte_cons hi, h39]
  rintro e w' ⟨hg, ⟨hn, T, rfl⟩ | ⟨t, n, T, ht, hT, rfl⟩⟩
  · exact ⟨hg, .inl ⟨11, by rw [hc]; show (match txt (s.data.toList.drop (i + 1)) with | none => Took.err 11 | some (t, n) => Took.ok (Tok.mk 5 t 0) (n + 1)) = _; rw [hn], _, _, _, rfl⟩⟩
  · refine ⟨hg, .inr ⟨⟨5, t, 0⟩, n + 1, T, by rw [hc]; show (match txt (s.data.toList.drop (i + 1)) with | none => Took.err 11 | some (t, n) => Took.ok (Tok.mk 5 t 0) (n + 1)) = _; rw [ht], hT, ?_⟩⟩
    rw [show i + 1 + n = i + (n + 1) by omega]
end Go.Proofs.Ytdcibeagljeioaa

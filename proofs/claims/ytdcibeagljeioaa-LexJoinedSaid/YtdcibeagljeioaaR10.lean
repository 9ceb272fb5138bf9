/- Chapter 06: the reference's symbol: names. -/
import Derived.Test.YtdcibeagljeioaaR9
namespace Go.Proofs.Ytdcibeagljeioaa
open Go.ChangeShapes Go.WideShapes Go.ChangeAt Go.RowKit
set_option linter.unusedVariables false
set_option linter.unusedSimpArgs false
/-- what is left of a symbol, where its end so far is told -/
def SymAt (l : Bs) (n : Nat) : Prop := symV l = if colonB (l.drop n) then (match kws (l.length + 1) (l.drop (n + 1)) with | none => Took.err 12 | some k => Took.ok (l.take (n + 1 + k)) (n + 1 + k)) else Took.ok (l.take n) n
theorem symAt0 {l : Bs} (h : hd signB l = false) (h' : hd letB l = true) (h24 : ¬ nmLen l > 24) : SymAt l (nmLen l) := by
  unfold SymAt
  cases hc : colonB (l.drop (nmLen l))
  · rw [sym_name h h' h24 hc]; rfl
  · rw [sym_kw h h' h24 hc, kws_fuel l.length (l.length + 1) _ (by simp) (by simp; omega)]; rfl
theorem symAt_end {l : Bs} {n : Nat} (h : SymAt l n) (hc : colonB (l.drop n) = false) : symV l = .ok (l.take n) n := by
  unfold SymAt at h; rw [h, if_neg (by simp [hc])]
theorem symAt_stop {l : Bs} {n : Nat} (h : SymAt l n) (hc : colonB (l.drop n) = true) (hk : ¬ (hd letB (l.drop (n + 1)) = true ∧ colonB (l.drop (n + 1 + nmLen (l.drop (n + 1)))) = true)) : symV l = .ok (l.take (n + 1)) (n + 1) := by
  unfold SymAt at h
  rw [h, if_pos hc, kws_some (by rw [List.drop_drop]; exact hk)]
theorem symAt_long {l : Bs} {n : Nat} (h : SymAt l n) (hc : colonB (l.drop n) = true) (h1 : hd letB (l.drop (n + 1)) = true) (h2 : colonB (l.drop (n + 1 + nmLen (l.drop (n + 1)))) = true) (h24 : nmLen (l.drop (n + 1)) > 24) : symV l = .err 12 := by
  unfold SymAt at h
  rw [h, if_pos hc, kws_none h1 (by rw [List.drop_drop]; exact h2) h24]
theorem symAt_next {l : Bs} {n : Nat} (h : SymAt l n) (hc : colonB (l.drop n) = true) (h1 : hd letB (l.drop (n + 1)) = true) (h2 : colonB (l.drop (n + 1 + nmLen (l.drop (n + 1)))) = true) (h24 : ¬ nmLen (l.drop (n + 1)) > 24) : SymAt l (n + 1 + nmLen (l.drop (n + 1))) := by
  unfold SymAt at h ⊢
  rw [if_pos h2, h, if_pos hc, kws_more h1 (by rw [List.drop_drop]; exact h2) h24 (by simp), List.drop_drop, show n + 1 + (nmLen (l.drop (n + 1)) + 1) = n + 1 + nmLen (l.drop (n + 1)) + 1 by omega]
  cases kws (l.length + 1) (l.drop (n + 1 + nmLen (l.drop (n + 1)) + 1)) with
  | none => rfl
  | some k => simp only [Option.map]; rw [show n + 1 + (k + (nmLen (l.drop (n + 1)) + 1)) = n + 1 + nmLen (l.drop (n + 1)) + 1 + k by omega]
theorem rcolon_at (s : ByteArray) (i : Nat) (w : World) (hs : s.size ≤ 100000) : Calls Try.prog 33 #[.string s, .int .i64 i] w fun e w' => e = .returned (.bool (colonB (s.data.toList.drop i))) ∧ w' = w := rcolon_any s i w hs
end Go.Proofs.Ytdcibeagljeioaa

/- Chapter 06: a source's tokens: words for the walk. -/
import Derived.Test.YtdcibeagljeioaaW13
namespace Go.Proofs.Ytdcibeagljeioaa
open Go.ChangeShapes Go.WideShapes Go.ChangeAt Go.RowKit
set_option linter.unusedVariables false
set_option linter.unusedSimpArgs false
def strB (t : Bs) : ByteArray := ⟨t.toArray⟩
theorem strB_of {T : ByteArray} {t : Bs} (h : T.data.toList = t) : T = strB t := by
  apply ByteArray.ext; apply Array.toList_inj.1; rw [h]; rfl
def tokCells (t : ATok) : List Value := [.int .i64 t.kind, .string (strB t.text), .int .i64 t.num, .int .i64 (t.at_ : Int)]
def rowCells (A : List ATok) : List Value := A.flatMap tokCells
theorem rowCells_app (A : List ATok) (t : ATok) : rowCells (A ++ [t]) = rowCells A ++ tokCells t := by simp [rowCells]
theorem own_went {c d : World} {br : Nat} {s : ByteArray} {j base n size : Nat} {e : TypeId} {v : Value} {xs : List Value} (h : c.ownsRow base e size v n xs) (hW : Went c d br s j) (hb : br < base) : d.ownsRow base e size v n xs :=
  h.kept hW.grown (by
    rcases h.2 with ⟨rfl, _⟩ | ⟨g, cap, cur, rfl, hg, _⟩
    · simp [Value.ownBlock]
    · right; simp only [Value.ownBlock]; intro e; simp at e; omega)
theorem below_went {w c d : World} {br : Nat} {s : ByteArray} {j : Nat} (h : Below w.heap.size w c) (hW : Went c d br s j) (hb : w.heap.size ≤ br) : Below w.heap.size w d :=
  h.trans ⟨hW.grown.os, hW.grown.tape, hW.grown.output, hW.grown.size, fun k hk => hW.grown.block k (Nat.lt_of_lt_of_le hk h.size) (by simp; omega)⟩
theorem Toks.app_nil (t : Toks) : Toks.app [] t = t := by cases t <;> rfl
theorem Toks.app_cons (A : List ATok) (t : ATok) (B : Toks) : Toks.app A (Toks.cons t B) = Toks.app (A ++ [t]) B := by
  cases B with
  | err a e => rfl
  | ok l => simp [Toks.app, Toks.cons]
theorem whole_blanks : ∀ l : Bs, Whole (l.takeWhile blankB)
  | [] => whole_nil
  | c :: r => by
    cases h : blankB c
    · simp only [List.takeWhile_cons, h]; exact whole_nil
    · simp only [List.takeWhile_cons, h, if_true]
      have := whole_app (whole_blank h) (whole_blanks r)
      simpa using this
/-- behind a run of blanks -/
theorem toks_blanks (f at_ : Nat) (l : Bs) : toksF (f + 1) at_ l = toksF (f + 1) (at_ + (l.takeWhile blankB).length) (l.drop (l.takeWhile blankB).length) := by
  have h := toks_pre (whole_blanks l) f at_ (l.drop (l.takeWhile blankB).length)
  rw [← h]
  have e : l.takeWhile blankB ++ l.drop (l.takeWhile blankB).length = l := by
    obtain ⟨t, ht⟩ := List.takeWhile_prefix (p := blankB) (l := l)
    have h2 : l.drop (l.takeWhile blankB).length = t := by
      generalize l.takeWhile blankB = p at ht
      subst ht
      exact List.drop_left
    rw [h2]; exact ht
  rw [e]
/-- behind a remark -/
theorem toks_rem {k : Nat} {r : Bs} (h : remV r = some k) (f at_ : Nat) : toksF (f + 1) at_ (34 :: r) = toksF (f + 1) (at_ + (k + 2)) (r.drop (k + 1)) := by
  have hk := remV_lt r k h
  have hw : Whole (34 :: r.take (k + 1)) := fun x => by
    have hk' : remV (r.take (k + 1)) = some k := by
      have := skip_cons 34 r
      clear this
      induction r generalizing k with
      | nil => cases h
      | cons d r ih =>
        unfold remV at h
        split at h
        · next hd' => simp at h; subst h; simp [remV, hd']
        · next hd' =>
          cases hy : remV r with
          | none => rw [hy] at h; cases h
          | some j =>
            rw [hy] at h; simp at h; subst h
            simp only [List.take_succ_cons, remV]
            rw [if_neg hd', ih hy (remV_lt r j hy)]; rfl
    simp only [List.cons_append]
    rw [skip_cons, if_neg (by decide), if_pos (by decide), rem_app x hk']
    simp only
    rw [List.drop_left' (by rw [List.length_take]; omega)]
    simp only [List.length_cons, List.length_take, Nat.min_eq_left (Nat.succ_le_of_lt hk), Prod.mk.injEq, and_true]; omega
  have h2 := toks_pre hw f at_ (r.drop (k + 1))
  simp only [List.cons_append, List.take_append_drop, List.length_cons, List.length_take, Nat.min_eq_left (Nat.succ_le_of_lt hk)] at h2
  exact h2
theorem toks_open {r : Bs} (h : remV r = none) (f at_ : Nat) : toksF (f + 1) at_ (34 :: r) = .err at_ 11 := by
  have hs : skipV (34 :: r) = (0, true) := by rw [skip_cons, if_neg (by decide), if_pos (by decide), h]
  simp only [toksF, hs]
  rfl
theorem toks_end (f at_ : Nat) : toksF (f + 1) at_ [] = .ok [⟨0, [], 0, at_⟩] := by simp [toksF, skip_nil]
/-- where no blank and no remark stands -/
theorem toks_tok {c : UInt8} {r : Bs} (h1 : blankB c = false) (h2 : (c == 34) = false) (f at_ : Nat) : toksF (f + 1) at_ (c :: r) = match tokV (c :: r) with
      | .err e => .err at_ e
      | .ok t n => .cons ⟨t.kind, t.text, t.num, at_⟩ (toksF f (at_ + n) ((c :: r).drop n)) := by
  have hs : skipV (c :: r) = (0, false) := skip_none (by simp [hd, h1]; simpa using h2)
  simp only [toksF, hs]
  rw [if_neg (by simp), if_neg (by simp)]
  simp only [List.drop_zero, Nat.add_zero, Nat.zero_add]
  cases tokV (c :: r) <;> rfl
theorem index_rem : ∀ l : Bs, Lib.indexByte l 34 = match remV l with | none => -1 | some k => (k : Int)
  | [] => rfl
  | c :: r => by
    have ih := index_rem r
    unfold Lib.indexByte remV
    by_cases h : (c == 34) = true
    · rw [if_pos h, if_pos h]; rfl
    · rw [if_neg h, if_neg h, ih]
      cases hr : remV r with
      | none => rfl
      | some k =>
        simp only [Option.map]
        rw [if_neg (by simp)]
        rfl
end Go.Proofs.Ytdcibeagljeioaa

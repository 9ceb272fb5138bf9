/- Chapter 10, plain: what the tokens of a source are. -/
import Derived.Test.YtnojndgmgkgnpaaPA
import Derived.Test.YtnojndgmgkgnpaaXPlain
namespace Go.Proofs.Ytnojndgmgkgnpaa
set_option linter.unusedVariables false
set_option linter.unusedSimpArgs false
theorem txt_len : ∀ (l t : Lx.Bs) (n : Nat), Lx.txt l = some (t, n) → t.length ≤ l.length
 | [], t, n, h => by simp [Lx.txt] at h
 | [c], t, n, h => by
  unfold Lx.txt at h
  split at h
  ·simp at h; obtain ⟨rfl, _⟩ := h; simp
  ·cases h
 | c :: d :: r, t, n, h => by
  unfold Lx.txt at h
  split at h
  ·split at h
   ·cases hx : Lx.txt r with
    | none => rw [hx] at h; cases h
    | some x => rw [hx] at h; simp at h; obtain ⟨rfl, _⟩ := h; have := txt_len r x.1 x.2 hx; simp; omega
   ·simp at h; obtain ⟨rfl, _⟩ := h; simp
  ·cases hx : Lx.txt (d :: r) with
   | none => rw [hx] at h; cases h
   | some x => rw [hx] at h; simp at h; obtain ⟨rfl, _⟩ := h; have := txt_len (d :: r) x.1 x.2 hx; simp at this ⊢; omega
theorem dig_ge {c : UInt8} (h : Lx.digB c = true) : 48 ≤ c.toNat := by
 simp only [Lx.digB, Bool.and_eq_true, decide_eq_true_eq] at h
 exact UInt8.le_iff_toNat_le.1 h.1
theorem num_in : ∀ (l : Lx.Bs) (n v : Int), 0 ≤ n → n ≤ Lx.big → Lx.numV l n = some v → 0 ≤ v ∧ v ≤ Lx.big
 | [], n, v, h0, h1, h => by simp [Lx.numV] at h; subst h; exact ⟨h0, h1⟩
 | c :: r, n, v, h0, h1, h => by
  unfold Lx.numV at h
  split at h
  ·rename_i hd
   split at h
   ·cases h
   ·rename_i hb
    have h48 := dig_ge hd
    exact num_in r _ v (by omega) (by omega) h
  ·simp at h; subst h; exact ⟨h0, h1⟩
theorem sym_len {l t : Lx.Bs} {n : Nat} (h : Lx.symV l = .ok t n) : t.length ≤ l.length := by
 unfold Lx.symV at h
 repeat' split at h
 all_goals (cases h; try (simp only [List.length_take]; omega))
theorem wrd_len {l : Lx.Bs} {t : Lx.Tok} {n : Nat} (h : Lx.wrdV l = .ok t n) : t.num = 0 ∧ t.text.length ≤ l.length := by
 unfold Lx.wrdV at h
 repeat' split at h
 all_goals (cases h; try exact ⟨rfl, by simp only [List.length_take]; omega⟩)
theorem tok_len {l : Lx.Bs} {t : Lx.Tok} {n : Nat} (h : Lx.tokV l = .ok t n) : (0 ≤ t.num ∧ t.num ≤ Lx.big) ∧ t.text.length ≤ l.length := by
 have hz : (0 : Int) ≤ 0 ∧ (0 : Int) ≤ Lx.big := by decide
 cases l with
 | nil => simp [Lx.tokV] at h
 | cons c r =>
  simp only [Lx.tokV] at h
  split at h
  ·have h9 := wrd_len h
   exact ⟨by rw [h9.1]; exact hz, h9.2⟩
  split at h
  ·cases hn : Lx.numV (c :: r) 0 with
   | none => rw [hn] at h; cases h
   | some v =>
    rw [hn] at h
    cases h
    exact ⟨num_in _ _ _ hz.1 hz.2 hn, Nat.zero_le _⟩
  split at h
  ·cases ht : Lx.txt r with
   | none => rw [ht] at h; cases h
   | some z =>
    obtain ⟨t9, n9⟩ := z
    rw [ht] at h
    cases h
    have := txt_len _ _ _ ht
    exact ⟨hz, Nat.le_succ_of_le this⟩
  split at h
  ·split at h
   ·cases h; exact ⟨hz, Nat.zero_le _⟩
   ·cases hs : Lx.symV r with
    | err e => rw [hs] at h; cases h
    | ok t9 n9 =>
     rw [hs] at h
     cases h
     have := sym_len hs
     exact ⟨hz, Nat.le_succ_of_le this⟩
  split at h
  ·cases h; exact ⟨hz, Nat.zero_le _⟩
  split at h
  ·split at h
   ·cases h
   ·cases h; exact ⟨hz, by simp only [List.length_take, List.length_cons]; omega⟩
  split at h
  ·cases h; exact ⟨hz, by simp only [List.length_take]; omega⟩
  split at h
  ·cases h; exact ⟨hz, by simp⟩
  ·cases h
theorem toks_all : ∀ (f at_ : Nat) (l : Lx.Bs) (A : Tks), Lx.toksF f at_ l = .ok A → 0 < A.length ∧ A.length ≤ l.length + 1 ∧ (A.getD (A.length - 1) noTok).kind = 0 ∧ ∀ t, t ∈ A → (0 ≤ t.num ∧ t.num ≤ Lx.big) ∧ t.text.length ≤ l.length
 | 0, _, _, _, h => by simp [Lx.toksF] at h
 | f + 1, at_, l, A, h => by
  unfold Lx.toksF at h
  split at h
  ·cases h
  split at h
  ·cases h
   refine ⟨by simp, by simp, rfl, fun t ht => ?_⟩
   rw [List.mem_singleton] at ht
   subst ht
   exact ⟨show (0 : Int) ≤ 0 ∧ (0 : Int) ≤ Lx.big by decide, Nat.zero_le _⟩
  ·split at h
   ·cases h
   ·rename_i t n ht
    cases hr : Lx.toksF f (at_ + (Lx.skipV l).1 + n) (l.drop ((Lx.skipV l).1 + n)) with
    | err a e => rw [hr] at h; cases h
    | ok B =>
     rw [hr] at h
     have e9 : A = ⟨t.kind, t.text, t.num, at_ + (Lx.skipV l).1⟩ :: B := by cases h; rfl
     obtain ⟨b1, b2, b3, b4⟩ := toks_all f _ _ B hr
     obtain ⟨n1, n2, _⟩ := Lx.tok_pos ht
     obtain ⟨m1, m2⟩ := tok_len ht
     rw [List.length_drop] at b2 n2 m2
     subst e9
     refine ⟨by simp, by rw [List.length_cons]; omega, ?_, fun x hx => ?_⟩
     ·obtain ⟨k, hk⟩ : ∃ k, B.length = k + 1 := ⟨B.length - 1, by omega⟩
      rw [List.length_cons, hk]
      rw [hk] at b3
      exact b3
     ·rcases List.mem_cons.1 hx with z | z
      ·subst z
       exact ⟨m1, by show t.text.length ≤ _; omega⟩
      ·obtain ⟨c1, c2⟩ := b4 x z
       rw [List.length_drop] at c2
       exact ⟨c1, by omega⟩
theorem tx_len (t : Lx.ATok) : (tx t).size = t.text.length := by
 unfold tx Lx.strB
 simp [ByteArray.size]
theorem TokOk.of {s : ByteArray} (hs : s.size ≤ 2000) {T : Tks} (h : Lx.toksV s.data.toList = .ok T) : TokOk T ∧ T.length ≤ s.size + 1 := by
 obtain ⟨h1, h2, h3, h4⟩ := toks_all _ _ _ _ h
 have hl : s.data.toList.length = s.size := by rw [Array.length_toList]; rfl
 rw [hl] at h2
 have hb : Lx.big = 1152921504606846976 := rfl
 refine ⟨⟨h1, by omega, h3, fun t ht => ?_, fun t ht => ?_⟩, h2⟩
 ·have := (h4 t ht).1
  rw [hb] at this
  unfold InI
  omega
 ·have := (h4 t ht).2
  rw [tx_len]
  omega
end Go.Proofs.Ytnojndgmgkgnpaa

/- Chapter 06: a symbol. -/
import Derived.Test.YtdcibeagljeioaaW5
namespace Go.Proofs.Ytdcibeagljeioaa
open Go.ChangeShapes Go.WideShapes Go.ChangeAt Go.RowKit
set_option linter.unusedVariables false
set_option linter.unusedSimpArgs false
theorem memB_eq (c : UInt8) : ∀ l : Bs, memB l c = l.contains c
  | [] => rfl
  | a :: l => by
    have ih := memB_eq c l
    have hge := Lib.indexByte_ge l c
    unfold memB at ih ⊢
    unfold Lib.indexByte
    by_cases h : (a == c) = true
    · rw [if_pos h]
      have : c = a := by simpa using (beq_iff_eq.1 h).symm
      simp [this]
    · rw [if_neg h]
      have h' : ¬ c = a := fun e => h (by simp [e])
      by_cases h2 : (Lib.indexByte l c == -1) = true
      · rw [if_pos h2]
        have h3 : Lib.indexByte l c = -1 := by simpa using h2
        rw [h3] at ih
        simp [h'] at ih ⊢
        exact ih
      · rw [if_neg h2]
        have h3 : ¬ Lib.indexByte l c = -1 := by simpa using h2
        have : 0 ≤ Lib.indexByte l c := by omega
        rw [decide_eq_true this] at ih
        have h4 : 0 ≤ Lib.indexByte l c + 1 := by omega
        rw [decide_eq_true h4]
        simp at ih
        simp [ih]
def bSigns : ByteArray := ⟨#[43, 45, 42, 47, 60, 62, 61, 126, 44, 64, 38, 37]⟩
def bMarks : ByteArray := ⟨#[94, 46, 59, 40, 41, 91, 93, 124]⟩
def bBlanks : ByteArray := ⟨#[9, 10, 13, 32]⟩
theorem mem_signs : memB bSigns.data.toList = signB := funext fun c => memB_eq c _
theorem mem_marks : memB bMarks.data.toList = markB := funext fun c => memB_eq c _
theorem mem_blanks : memB bBlanks.data.toList = blankB := funext fun c => by
  rw [memB_eq]
  show List.contains [9, 10, 13, 32] c = blankB c
  unfold blankB
  rw [Bool.eq_iff_iff]
  simp [or_assoc]
theorem inmk_any (t : ByteArray) (w : World) : Calls Try.prog 16 #[.string t] w fun e w' => e = .returned (.func (.func 21) #[] #[.pointer (some ⟨w.heap.size, 0, none⟩)]) ∧ w' = w.alloc (.cells #[.string t] 9) := by
  go_enter Try.func16, Try.ntmps16
  go_wp2
  go_ret
  exact ⟨rfl, rfl⟩
/-- a run of bytes of some, behind the making of its closure -/
theorem runset {w : World} {b : Nat} {s : ByteArray} {i : Nat} (h : At w b s i) (hs : s.size ≤ 100000) (hi : i ≤ s.size) (t : ByteArray) (p : UInt8 → Bool) (hp : memB t.data.toList = p) (m : Nat) (hm : m ≤ 100000) :
    Calls Try.prog 15 #[.pointer (some ⟨b, 0, none⟩), .func (.func 21) #[] #[.pointer (some ⟨w.heap.size, 0, none⟩)], .int .i64 m] (w.alloc (.cells #[.string t] 9)) fun e w' =>
      e = .returned (.string (s.extract i (i + rl p (s.data.toList.drop i) m))) ∧ Went w w' b s (i + rl p (s.data.toList.drop i) m) := by
  have hl := h.lt
  have := run_in (h.alloc (.cells #[.string t] 9)) hs hi m hm t w.heap.size (by simp) (by omega)
  rw [hp] at this
  refine this.mono fun e w' h' => ⟨h'.1, h'.2.1, (World.grownBy_alloc w _ _).trans h'.2.2⟩
def SymPost (w : World) (b : Nat) (s : ByteArray) (i : Nat) (e : Ending) (w' : World) : Prop :=
  (∃ x, symV (s.data.toList.drop i) = .err x ∧ (x = 10 ∨ x = 12) ∧ e = .returned (.tuple #[.string ⟨#[]⟩, .int .i64 x]) ∧ ∃ k, k ≤ s.size ∧ Went w w' b s k) ∨
  ∃ (t : Bs) (n : Nat) (T : ByteArray), symV (s.data.toList.drop i) = .ok t n ∧ T.data.toList = t ∧ e = .returned (.tuple #[.string T, .int .i64 0]) ∧ Went w w' b s (i + n)
theorem sg_bd (s : ByteArray) (i : Nat) (hi : i ≤ s.size) : i + sgLen (s.data.toList.drop i) ≤ s.size := by
  have := sgLen_le (s.data.toList.drop i)
  simp at this
  have : s.data.size = s.size := rfl
  omega
theorem sym_sign {l : Bs} (h : hd signB l = true) : symV l = .ok (l.take (sgLen l)) (sgLen l) := by unfold symV; rw [if_pos h]
theorem sym_none {l : Bs} (h : hd signB l = false) (h' : hd letB l = false) : symV l = .err 10 := by unfold symV; rw [if_neg (by simp [h]), if_neg (by simp [h'])]
theorem sym_long {l : Bs} (h : hd signB l = false) (h' : hd letB l = true) (h24 : nmLen l > 24) : symV l = .err 12 := by unfold symV; rw [if_neg (by simp [h]), if_pos h', if_pos h24]
theorem sym_name {l : Bs} (h : hd signB l = false) (h' : hd letB l = true) (h24 : ¬ nmLen l > 24) (hc : colonB (l.drop (nmLen l)) = false) : symV l = .ok (l.take (nmLen l)) (nmLen l) := by
  unfold symV; rw [if_neg (by simp [h]), if_pos h', if_neg h24, if_neg (by simp [hc])]
theorem sym_kw {l : Bs} (h : hd signB l = false) (h' : hd letB l = true) (h24 : ¬ nmLen l > 24) (hc : colonB (l.drop (nmLen l)) = true) : symV l = match kws l.length (l.drop (nmLen l + 1)) with
      | none => .err 12
      | some k => .ok (l.take (nmLen l + 1 + k)) (nmLen l + 1 + k) := by
  unfold symV; rw [if_neg (by simp [h]), if_pos h', if_neg h24, if_pos hc]
  cases kws l.length (l.drop (nmLen l + 1)) <;> rfl
theorem sg_zero {l : Bs} : sgLen l = 0 ↔ hd signB l = false := by
  cases l with
  | nil => simp [sgLen, hd]
  | cons c r =>
    cases h : signB c
    · simp [sgLen, hd, h]
    · simp [sgLen, hd, h]
theorem not_sign_letter : True := trivial
set_option maxHeartbeats 4000000 in
theorem symA {w : World} {b : Nat} {s : ByteArray} {i : Nat} (h : At w b s i) (hs : s.size ≤ 100000) (hi : i ≤ s.size) (hsg : hd signB (s.data.toList.drop i) = true) :
    Calls Try.prog 30 #[.pointer (some ⟨b, 0, none⟩)] w (SymPost w b s i) := by
  have hb := sg_bd s i hi
  have R : Calls Try.prog 15 #[.pointer (some ⟨b, 0, none⟩), .func (.func 21) #[] #[.pointer (some ⟨w.heap.size, 0, none⟩)], .int .i64 2] (w.alloc (.cells #[.string ⟨#[43, 45, 42, 47, 60, 62, 61, 126, 44, 64, 38, 37]⟩] 9)) (fun e w' => e = .returned (.string (s.extract i (i + sgLen (s.data.toList.drop i)))) ∧ Went w w' b s (i + sgLen (s.data.toList.drop i))) := runset h hs hi bSigns signB mem_signs 2 (by omega)
  have HV := Lib.hid (sym_sign hsg)
  have h0 : ¬ sgLen (s.data.toList.drop i) = 0 := fun e => by rw [sg_zero.1 e] at hsg; cases hsg
  clear hsg
  obtain ⟨n, hn⟩ : ∃ n, sgLen (s.data.toList.drop i) = n := ⟨_, rfl⟩
  have HN := Lib.hid hn
  rw [hn] at R hb h0
  clear hn
  have hz := size_ext s i n hb
  have hx := ext_list s i n
  obtain ⟨t, ht⟩ : ∃ t, s.extract i (i + n) = t := ⟨_, rfl⟩
  rw [ht] at R hz hx
  have HX := Lib.hid hx
  clear ht hx
  have e1 : t.toList.isEmpty = false := by
    rw [ByteArray.toList_eq]
    cases hl : t.data.toList with
    | nil => have : t.data.toList.length = t.size := rfl
             rw [hl] at this; simp at this; omega
    | cons => rfl
  have HZ := Lib.hid hz
  clear hz
  go_enter Try.func30, Try.ntmps30
  go_wp2_with (first | (go_at_call 16; (with_reducible refine (inmk_any _ _).mono ?_); rintro e w1 ⟨rfl, rfl⟩) | (go_at_call 15; (with_reducible refine R.mono ?_); rintro e w2 ⟨rfl, hW⟩))
  go_ret2
  right
  exact ⟨_, _, t, HV.out, by rw [HX.out, HN.out], rfl, by rw [HN.out]; exact hW⟩
end Go.Proofs.Ytdcibeagljeioaa

/- Chapter 06: a colon; a name; a text. -/
import Derived.Test.YtdcibeagljeioaaW2
import Derived.Maps.AppendAt
namespace Go.Proofs.Ytdcibeagljeioaa
open Go.ChangeShapes Go.WideShapes Go.ChangeAt Go.RowKit
set_option linter.unusedVariables false
set_option linter.unusedSimpArgs false
theorem hd_byte {p : UInt8 → Bool} (h0 : p 0 = false) (s : ByteArray) (i : Nat) : hd p (s.data.toList.drop i) = p (byteU s i) := by
  unfold byteU
  by_cases h : i < s.size
  · rw [dif_pos h, hd_drop h]
  · rw [dif_neg h, hd_end (by omega), h0]
theorem u8_eq (x : UInt8) (k : Nat) (hk : k < 256) : ((x.toNat : Int) == (k : Int)) = (x == UInt8.ofNat k) := by
  rw [Bool.eq_iff_iff]
  simp only [beq_iff_eq]
  constructor
  · intro h
    have : x.toNat = k := by omega
    rw [← this]; simp
  · intro h
    rw [h]; simp; omega
theorem u8_ne (x : UInt8) (k : Nat) (hk : k < 256) : ((x.toNat : Int) != (k : Int)) = !(x == UInt8.ofNat k) := by
  unfold bne; rw [u8_eq x k hk]
theorem next0 {w : World} {b : Nat} {s : ByteArray} {i : Nat} (h : At w b s i) (hs : s.size ≤ 100000) (hi : i ≤ s.size) :
    Calls Try.prog 23 #[.pointer (some ⟨b, 0, none⟩), .int .i64 0] w fun e w' => e = .returned (.int .u8 (byteU s i).toNat) ∧ ∃ n, w' = w.drewN n := next_any h 0 hs hi (by omega)
theorem next1 {w : World} {b : Nat} {s : ByteArray} {i : Nat} (h : At w b s i) (hs : s.size ≤ 100000) (hi : i ≤ s.size) :
    Calls Try.prog 23 #[.pointer (some ⟨b, 0, none⟩), .int .i64 1] w fun e w' => e = .returned (.int .u8 (byteU s (i + 1)).toNat) ∧ ∃ n, w' = w.drewN n := next_any h 1 hs hi (by omega)
/-- what a reader's deed leaves -/
structure Went (w w' : World) (b : Nat) (s : ByteArray) (i : Nat) : Prop where
  at_ : At w' b s i
  grown : w.grownBy w' (some b)
theorem Went.drewN {w w' : World} {b : Nat} {s : ByteArray} {i : Nat} (h : Went w w' b s i) (n : Nat) : Went w (w'.drewN n) b s i := ⟨h.at_.drewN n, grown_drewN h.grown n⟩
theorem Went.set {w w' : World} {b : Nat} {s : ByteArray} {i : Nat} (h : Went w w' b s i) (j : Nat) : Went w (w'.setCell ⟨b, 1, none⟩ (.int .i64 j)) b s j := ⟨h.at_.set j, grown_setCell h.grown _⟩
theorem Went.refl {w : World} {b : Nat} {s : ByteArray} {i : Nat} (h : At w b s i) : Went w w b s i := ⟨h, World.grownBy.refl _ _⟩
theorem Went.trans {a c d : World} {b : Nat} {s : ByteArray} {i j : Nat} (h : Went a c b s i) (k : Went c d b s j) : Went a d b s j := ⟨k.at_, h.grown.trans k.grown⟩
theorem colon_eq (s : ByteArray) (i : Nat) : colonB (s.data.toList.drop i) = (byteU s i == 58 && !(byteU s (i + 1) == 61)) := by
  rw [← hd_byte (p := (· == 61)) rfl s (i + 1), ← hd_byte (p := (· == 58)) rfl s i, ← List.drop_drop]
  generalize s.data.toList.drop i = l
  cases l <;> rfl
def colEnd (s : ByteArray) (i : Nat) : Nat := if colonB (s.data.toList.drop i) then i + 1 else i
set_option maxHeartbeats 4000000 in
theorem colon_any {w : World} {b : Nat} {s : ByteArray} {i : Nat} (h : At w b s i) (hs : s.size ≤ 100000) (hi : i ≤ s.size) :
    Calls Try.prog 26 #[.pointer (some ⟨b, 0, none⟩)] w fun e w' => e = .returned (.bool (colonB (s.data.toList.drop i))) ∧ Went w w' b s (colEnd s i) := by
  have CE : Hid (∀ v, colonB (s.data.toList.drop i) = v → colEnd s i = if v then i + 1 else i) := fun v hv => by subst hv; rfl
  have E := Lib.hid (colon_eq s i)
  have W0 := Went.refl h
  obtain ⟨x, hx⟩ : ∃ x, byteU s i = x := ⟨_, rfl⟩
  obtain ⟨y, hy⟩ : ∃ y, byteU s (i + 1) = y := ⟨_, rfl⟩
  have HX := Lib.hid hx
  have HY := Lib.hid hy
  clear hx hy
  obtain ⟨c0, c1, f1⟩ := h
  have ne1 := u8_ne x 58 (by omega)
  have eq1 := u8_eq y 61 (by omega)
  cases q1 : x == UInt8.ofNat 58
  · have F : Hid (colonB (s.data.toList.drop i) = false) := by show _ = _; rw [E.out, HX.out, show (x == 58) = false from q1]; rfl
    rw [q1] at ne1
    have n1 : ((x.toNat : Int) != 58) = true := ne1
    clear ne1 eq1
    go_enter Try.func26, Try.ntmps26
    go_wp2_with (go_at_call 23; (with_reducible refine (next0 W0.at_ hs hi).mono ?_); rw [HX.out]; rintro e w1 ⟨rfl, n, rfl⟩)
    go_ret
    exact ⟨ret_bool F.out.symm, by rw [CE.out _ F.out]; exact W0.drewN _⟩
  · rw [q1] at ne1
    have n1 : ((x.toNat : Int) != 58) = false := ne1
    cases q2 : y == UInt8.ofNat 61
    · have F : Hid (colonB (s.data.toList.drop i) = true) := by show _ = _; rw [E.out, HX.out, HY.out, show (x == 58) = true from q1, show (y == 61) = false from q2]; rfl
      rw [q2] at eq1
      have n2 : ((y.toNat : Int) == 61) = false := eq1
      clear ne1 eq1
      go_enter Try.func26, Try.ntmps26
      go_wp2_with (first | (go_at_call 23; (with_reducible refine (next0 W0.at_ hs hi).mono ?_); rw [HX.out]; rintro e w1 ⟨rfl, n, rfl⟩) | (go_at_call 23; (with_reducible refine (next1 (W0.at_.drewN _) hs hi).mono ?_); rw [HY.out]; rintro e w1 ⟨rfl, n', rfl⟩))
      go_ret
      refine ⟨ret_bool F.out.symm, ?_⟩
      rw [CE.out _ F.out]
      exact (W0.drewN _).set (i + 1)
    · have F : Hid (colonB (s.data.toList.drop i) = false) := by show _ = _; rw [E.out, HX.out, HY.out, show (x == 58) = true from q1, show (y == 61) = true from q2]; rfl
      rw [q2] at eq1
      have n2 : ((y.toNat : Int) == 61) = true := eq1
      clear ne1 eq1
      go_enter Try.func26, Try.ntmps26
      go_wp2_with (first | (go_at_call 23; (with_reducible refine (next0 W0.at_ hs hi).mono ?_); rw [HX.out]; rintro e w1 ⟨rfl, n, rfl⟩) | (go_at_call 23; (with_reducible refine (next1 (W0.at_.drewN _) hs hi).mono ?_); rw [HY.out]; rintro e w1 ⟨rfl, n', rfl⟩))
      go_ret
      exact ⟨ret_bool F.out.symm, by rw [CE.out _ F.out]; exact W0.drewN _⟩
theorem rl_all {p : UInt8 → Bool} (s : ByteArray) (i : Nat) : rl p (s.data.toList.drop i) s.size = ((s.data.toList.drop i).takeWhile p).length := by
  have h2 := (List.takeWhile_prefix (p := p) (l := s.data.toList.drop i)).length_le
  simp at h2
  have : s.data.size = s.size := rfl
  unfold rl; omega
theorem size_ext (s : ByteArray) (i n : Nat) (h : i + n ≤ s.size) : (s.extract i (i + n)).size = n := by simp; omega
def nmRet (s : ByteArray) (i : Nat) : Ending := if nmLen (s.data.toList.drop i) > 24 then .returned (.tuple #[.string ⟨#[]⟩, .int .i64 12]) else .returned (.tuple #[.string (s.extract i (i + nmLen (s.data.toList.drop i))), .int .i64 0])
theorem nm_bd (s : ByteArray) (i : Nat) (hi : i ≤ s.size) : i + nmLen (s.data.toList.drop i) ≤ s.size := by
  have := nmLen_le (s.data.toList.drop i)
  simp at this
  have : s.data.size = s.size := rfl
  omega
set_option maxHeartbeats 4000000 in
theorem name_any {w : World} {b : Nat} {s : ByteArray} {i : Nat} (h : At w b s i) (hs : s.size ≤ 100000) (hi : i ≤ s.size) :
    Calls Try.prog 25 #[.pointer (some ⟨b, 0, none⟩)] w fun e w' => e = nmRet s i ∧ Went w w' b s (i + nmLen (s.data.toList.drop i)) := by
  have hb := nm_bd s i hi
  have R := run_aln h hs hi s.size hs
  rw [rl_all] at R
  change Calls _ _ _ _ (fun e w' => e = .returned (.string (s.extract i (i + nmLen (s.data.toList.drop i)))) ∧ At w' b s (i + nmLen (s.data.toList.drop i)) ∧ w.grownBy w' (some b)) at R
  obtain ⟨n, hn⟩ : ∃ n, nmLen (s.data.toList.drop i) = n := ⟨_, rfl⟩
  have V : Hid (nmRet s i = if n > 24 then .returned (.tuple #[.string ⟨#[]⟩, .int .i64 12]) else .returned (.tuple #[.string (s.extract i (i + n)), .int .i64 0])) := by show nmRet s i = _; unfold nmRet; rw [hn]
  rw [hn] at R hb ⊢
  clear hn
  have hz := size_ext s i n hb
  obtain ⟨c0, c1, f1⟩ := h
  obtain ⟨t, ht⟩ : ∃ t, s.extract i (i + n) = t := ⟨_, rfl⟩
  rw [ht] at R hz
  have HT := Lib.hid ht
  clear ht
  by_cases h24 : n > 24
  · have d : decide (24 < t.size) = true := decide_eq_true (by omega)
    have d' : decide ((24 : Int) < (t.size : Int)) = true := decide_eq_true (by omega)
    have HZ := Lib.hid hz
    clear hz
    go_enter Try.func25, Try.ntmps25
    go_wp2_with (go_at_call 15; (with_reducible refine R.mono ?_); rintro e w1 ⟨rfl, hA, hG⟩)
    go_ret2
    exact ⟨by rw [V.out, if_pos h24]; rfl, hA, hG⟩
  · have d : decide (24 < t.size) = false := decide_eq_false (by omega)
    have d' : decide ((24 : Int) < (t.size : Int)) = false := decide_eq_false (by omega)
    have HZ := Lib.hid hz
    clear hz
    go_enter Try.func25, Try.ntmps25
    go_wp2_with (go_at_call 15; (with_reducible refine R.mono ?_); rintro e w1 ⟨rfl, hA, hG⟩)
    go_ret2
    exact ⟨by rw [V.out, if_neg h24, HT.out]; rfl, hA, hG⟩
end Go.Proofs.Ytdcibeagljeioaa

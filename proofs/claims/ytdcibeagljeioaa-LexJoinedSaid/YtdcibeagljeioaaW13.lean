/- Chapter 06: a token. -/
import Derived.Test.YtdcibeagljeioaaW11
import Derived.Test.YtdcibeagljeioaaW12
namespace Go.Proofs.Ytdcibeagljeioaa
open Go.ChangeShapes Go.WideShapes Go.ChangeAt Go.RowKit
set_option linter.unusedVariables false
set_option linter.unusedSimpArgs false
theorem byte_in {s : ByteArray} {i : Nat} {k : UInt8} (h : (byteU s i == k) = true) (hk : (0 == k) = false) : i < s.size := by
  rcases Nat.lt_or_ge i s.size with hh | hh
  · exact hh
  · unfold byteU at h
    rw [dif_neg (by omega)] at h
    rw [h] at hk; cases hk
theorem token_any {w : World} {b : Nat} {s : ByteArray} {i : Nat} (h : At w b s i) (hs : s.size ≤ 100000) (hi : i < s.size) :
    Calls Try.prog 18 #[.pointer (some ⟨b, 0, none⟩)] w (TokPost w b s i) := by
  obtain ⟨x, hx⟩ : ∃ x, byteU s i = x := ⟨_, rfl⟩
  obtain ⟨y, hy⟩ : ∃ y, byteU s (i + 1) = y := ⟨_, rfl⟩
  have hcons := byte_cons hi
  rw [hx] at hcons
  have e39 := u8_eq x 39 (by omega)
  have e35 := u8_eq x 35 (by omega)
  have e58 := u8_eq x 58 (by omega)
  have ey40 := u8_eq y 40 (by omega)
  have ey61 := u8_eq y 61 (by omega)
  have hy40 : hd (· == 40) (s.data.toList.drop (i + 1)) = (y == 40) := by rw [hd_byte (p := (· == 40)) rfl, hy]
  have hy61 : hd (· == 61) (s.data.toList.drop (i + 1)) = (y == 61) := by rw [hd_byte (p := (· == 61)) rfl, hy]
  have hyl : hd letB (s.data.toList.drop (i + 1)) = letB y := by rw [hd_byte (p := letB) rfl, hy]
  cases hl : letB x
  · cases hdg : digB x
    · cases q39 : x == UInt8.ofNat 39
      · have r39 : (x == 39) = false := q39
        rw [q39] at e39
        cases q35 : x == UInt8.ofNat 35
        · have r35 : (x == 35) = false := q35
          rw [q35] at e35
          cases q58 : x == UInt8.ofNat 58
          · have r58 : (x == 58) = false := q58
            rw [q58] at e58
            cases hsx : signB x
            · cases hmx : markB x
              · exact tok_none h hs hi x y hx hy hl hdg e39 e35 e58 hsx hmx (fun r => by simp only [tokV, hl, hdg, r39, r35, r58, hsx, hmx, Bool.false_and, Bool.false_eq_true, if_false])
              · exact tok_mark h hs hi x y hx hy hl hdg e39 e35 e58 hsx hmx (by simp only [tokV, hl, hdg, r39, r35, r58, hsx, hmx, Bool.false_and, Bool.false_eq_true, if_false, if_true])
            · exact tok_sign h hs hi x y hx hy hl hdg e39 e35 e58 hsx _ rfl (by simp only [tokV, hl, hdg, r39, r35, r58, hsx, Bool.false_and, Bool.false_eq_true, if_false, if_true])
          · have r58 : (x == 58) = true := q58
            rw [q58] at e58
            have hx58 : x = 58 := by simpa using r58
            cases q61 : y == UInt8.ofNat 61
            · have r61 : (y == 61) = false := q61
              rw [q61] at ey61
              cases hly : letB y
              · exact tok_none58 h hs hi x y hx hy hl hdg e39 e35 e58 ey61 hly (by rw [hx58]; decide) (by rw [hx58]; decide) (by simp only [tokV, hl, hdg, r39, r35, r58, hy61, r61, hyl, hly, Bool.true_and, Bool.false_eq_true, if_false, show signB x = false from by rw [hx58]; decide, show markB x = false from by rw [hx58]; decide])
              · obtain ⟨n, hn⟩ : ∃ n, nmLen (s.data.toList.drop (i + 1)) = n := ⟨_, rfl⟩
                by_cases h24 : n > 24
                · exact tok_par_long h hs hi x y hx hy hl hdg e39 e35 e58 ey61 hly n hn h24 (by simp only [tokV, hl, hdg, r39, r35, r58, hy61, r61, hyl, hly, Bool.true_and, Bool.false_eq_true, if_false, if_true]; rw [hn, if_pos h24])
                · exact tok_par h hs hi x y hx hy hl hdg e39 e35 e58 ey61 hly n hn h24 (by simp only [tokV, hl, hdg, r39, r35, r58, hy61, r61, hyl, hly, Bool.true_and, Bool.false_eq_true, if_false, if_true]; rw [hn, if_neg h24])
            · have r61 : (y == 61) = true := q61
              rw [q61] at ey61
              have hin := byte_in (s := s) (i := i + 1) (k := 61) (by rw [hy]; exact r61) (by decide)
              exact tok_asg h hs hi x y hx hy hl hdg e39 e35 e58 ey61 (by simp only [tokV, hl, hdg, r39, r35, r58, hy61, r61, Bool.true_and, Bool.false_eq_true, if_false, if_true]) (by omega)
        · have r35 : (x == 35) = true := q35
          rw [q35] at e35
          cases q40 : y == UInt8.ofNat 40
          · have r40 : (y == 40) = false := q40
            rw [q40] at ey40
            cases hsy : symV (s.data.toList.drop (i + 1)) with
            | err v => exact tok_sym_no h hs hi x y hx hy hl hdg e39 e35 ey40 v hsy (by simp only [tokV, hl, hdg, r39, r35, hy40, r40, hsy, Bool.false_eq_true, if_false, if_true])
            | ok t n => exact tok_sym h hs hi x y hx hy hl hdg e39 e35 ey40 t n hsy (by simp only [tokV, hl, hdg, r39, r35, hy40, r40, hsy, Bool.false_eq_true, if_false, if_true])
          · have r40 : (y == 40) = true := q40
            rw [q40] at ey40
            have hin := byte_in (s := s) (i := i + 1) (k := 40) (by rw [hy]; exact r40) (by decide)
            exact tok_arr h hs hi x y hx hy hl hdg e39 e35 ey40 (by simp only [tokV, hl, hdg, r39, r35, hy40, r40, Bool.false_eq_true, if_false, if_true]) (by omega)
      · have r39 : (x == 39) = true := q39
        rw [q39] at e39
        cases ht : txt (s.data.toList.drop (i + 1)) with
        | none => exact tok_txt_no h hs hi x y hx hy hl hdg e39 ht (by simp only [tokV, hl, hdg, r39, ht, Bool.false_eq_true, if_false, if_true])
        | some z => exact tok_txt h hs hi x y hx hy hl hdg e39 z.1 z.2 ht (by simp only [tokV, hl, hdg, r39, ht, Bool.false_eq_true, if_false, if_true])
    · cases hn : numV (s.data.toList.drop i) 0 with
      | none => exact tok_num_no h hs hi x y hx hy hl hdg hn (by rw [hcons] at hn; simp only [tokV, hl, hdg, hn, Bool.false_eq_true, if_false, if_true])
      | some v => exact tok_num h hs hi x y hx hy hl hdg v hn (by rw [hcons] at hn; simp only [tokV, hl, hdg, hn, Bool.false_eq_true, if_false, if_true])
  · obtain ⟨n, hn⟩ : ∃ n, nmLen (s.data.toList.drop i) = n := ⟨_, rfl⟩
    by_cases h24 : n > 24
    · exact tok_long h hs hi x y hx hy hl n hn h24
    · cases hc : colonB (s.data.toList.drop (i + n))
      · exact tok_name h hs hi x y hx hy hl n hn h24 hc
      · exact tok_kw h hs hi x y hx hy hl n hn h24 hc
end Go.Proofs.Ytdcibeagljeioaa

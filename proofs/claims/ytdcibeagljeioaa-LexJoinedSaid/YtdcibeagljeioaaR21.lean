/- Chapter 06: the reference's token: none; any. -/
import Derived.Test.YtdcibeagljeioaaR20
import Derived.Test.YtdcibeagljeioaaR17
namespace Go.Proofs.Ytdcibeagljeioaa
open Go.ChangeShapes Go.WideShapes Go.ChangeAt Go.RowKit
set_option linter.unusedVariables false
set_option linter.unusedSimpArgs false
set_option maxRecDepth 100000 in
set_option maxHeartbeats 4000000 in
theorem rtok_none (s : ByteArray) (i : Nat) (w : World) (hs : s.size ≤ 100000) (hi : i < s.size) (h1 : letB (byteU s i) = false) (h2 : digB (byteU s i) = false) (h3 : signB (byteU s i) = false) (h4 : markB (byteU s i) = false) (h39 : (byteU s i == 39) = false) (h35 : (byteU s i == 35) = false) (h58 : (byteU s i == 58) = false) :
    Calls Try.prog 19 #[.string s, .int .i64 i] w (RPost (tokV (s.data.toList.drop i)) w i i) := by
  obtain ⟨x, hx⟩ : ∃ x, s[i] = x := ⟨_, rfl⟩
  have hxb : byteU s i = x := by rw [byteU_lt hi, hx]
  obtain ⟨a, ha⟩ : ∃ a, atV s i = a := ⟨_, rfl⟩
  have HA := Lib.hid ha
  have hk : atV s i = kindV x := by unfold atV; rw [dif_pos hi, hx]
  have a1 : (a == 1) = false := by rw [← ha, hk, kind_letter, ← hxb]; exact h1
  have a2 : (a == 2) = false := by rw [← ha, hk, kind_digit, ← hxb]; exact h2
  have a3 : (a == 3) = false := by rw [← ha, hk, kind_sign, ← hxb]; exact h3
  have a4 : (a == 4) = false := by rw [← ha, hk, kind_markb, ← hxb]; exact h4
  have b0 : (0 : Int) ≤ (i : Int) := by omega
  have b01 : (i : Int) < (s.size : Int) := by omega
  have b03 : (0 : Int) ≤ (i : Int) + 1 := by omega
  rw [hxb] at h1 h2 h3 h4 h39 h35 h58
  have e39 := u8_eq x 39 (by omega)
  rw [show (x == UInt8.ofNat 39) = false from h39] at e39
  have n39 : ((x.toNat : Int) == 39) = false := e39
  have e35 := u8_eq x 35 (by omega)
  rw [show (x == UInt8.ofNat 35) = false from h35] at e35
  have n35 : ((x.toNat : Int) == 35) = false := e35
  have e58 := u8_eq x 58 (by omega)
  rw [show (x == UInt8.ofNat 58) = false from h58] at e58
  have n58 : ((x.toNat : Int) == 58) = false := e58
  have F : Hid (tokV (s.data.toList.drop i) = .err 10) := by
    show _ = _
    rw [byte_cons hi, hxb]
    simp only [tokV, h1, h2, h3, h4, h39, h35, h58, Bool.false_and, Bool.false_eq_true, if_false]
  clear ha hk hxb h1 h2 h3 h4 h39 h35 h58 e39 e35 e58
  go_enter Try.func19, Try.ntmps19
  go_wp2_with (first | (go_at_call 31; (with_reducible refine (rat_any _ _ _ hs).mono ?_); rw [HA.out]; rintro e w' ⟨rfl, rfl⟩))
  refine bodyPost_ret (v := .tuple #[.agg #[.int .i64 0, .string ⟨#[]⟩, .int .i64 0, .int .i64 i], .int .i64 0, .int .i64 10]) (by simp [results, Try.results19, go_sem, *]) rfl ?_
  refine ⟨?_, .inl ⟨_, F.out, _, _, _, rfl⟩⟩
  (repeat' (first | (with_reducible exact World.grownBy.refl _ _) | (with_reducible assumption) | (with_reducible refine grown_alloc ?_ _) | (with_reducible refine grown_drewN ?_ _) | (with_reducible refine grown_setOwn ?_ ?_ _) | omega))
set_option maxRecDepth 100000 in
set_option maxHeartbeats 4000000 in
theorem rtok_none58 (s : ByteArray) (i : Nat) (w : World) (hs : s.size ≤ 100000) (hi : i < s.size) (h1 : letB (byteU s i) = false) (h2 : digB (byteU s i) = false) (h3 : signB (byteU s i) = false) (h4 : markB (byteU s i) = false) (h39 : (byteU s i == 39) = false) (h35 : (byteU s i == 35) = false) (h58 : (byteU s i == 58) = true) (hi1 : i + 1 < s.size) (h61 : (byteU s (i + 1) == 61) = false) (hlt : hd letB (s.data.toList.drop (i + 1)) = false) :
    Calls Try.prog 19 #[.string s, .int .i64 i] w (RPost (tokV (s.data.toList.drop i)) w i i) := by
  obtain ⟨x, hx⟩ : ∃ x, s[i] = x := ⟨_, rfl⟩
  have hxb : byteU s i = x := by rw [byteU_lt hi, hx]
  obtain ⟨a, ha⟩ : ∃ a, atV s i = a := ⟨_, rfl⟩
  have HA := Lib.hid ha
  have hk : atV s i = kindV x := by unfold atV; rw [dif_pos hi, hx]
  have a1 : (a == 1) = false := by rw [← ha, hk, kind_letter, ← hxb]; exact h1
  have a2 : (a == 2) = false := by rw [← ha, hk, kind_digit, ← hxb]; exact h2
  have a3 : (a == 3) = false := by rw [← ha, hk, kind_sign, ← hxb]; exact h3
  have a4 : (a == 4) = false := by rw [← ha, hk, kind_markb, ← hxb]; exact h4
  have b0 : (0 : Int) ≤ (i : Int) := by omega
  have b01 : (i : Int) < (s.size : Int) := by omega
  have b03 : (0 : Int) ≤ (i : Int) + 1 := by omega
  rw [hxb] at h1 h2 h3 h4 h39 h35 h58
  have e39 := u8_eq x 39 (by omega)
  rw [show (x == UInt8.ofNat 39) = false from h39] at e39
  have n39 : ((x.toNat : Int) == 39) = false := e39
  have e35 := u8_eq x 35 (by omega)
  rw [show (x == UInt8.ofNat 35) = false from h35] at e35
  have n35 : ((x.toNat : Int) == 35) = false := e35
  have e58 := u8_eq x 58 (by omega)
  rw [show (x == UInt8.ofNat 58) = true from h58] at e58
  have n58 : ((x.toNat : Int) == 58) = true := e58
  have q61 : hd (· == 61) (s.data.toList.drop (i + 1)) = false := by rw [hd_byte (p := (· == 61)) rfl]; exact h61
  have F : Hid (tokV (s.data.toList.drop i) = .err 10) := by
    show _ = _
    rw [byte_cons hi, hxb]
    simp only [tokV, h1, h2, h3, h4, h39, h35, h58, q61, hlt, Bool.and_false, Bool.false_eq_true, if_false]
  have d1 : decide (i + 1 < s.size) = true := decide_eq_true hi1
  have d1' : decide ((i : Int) + 1 < (s.size : Int)) = true := decide_eq_true (by omega)
  have b02 : (i : Int) + 1 < (s.size : Int) := by omega
  obtain ⟨y, hy⟩ : ∃ y, s[i + 1] = y := ⟨_, rfl⟩
  have hyb : byteU s (i + 1) = y := by rw [byteU_lt hi1, hy]
  have e61 := u8_eq y 61 (by omega)
  rw [show (y == UInt8.ofNat 61) = false from by rw [← hyb]; exact h61] at e61
  have n61 : ((y.toNat : Int) == 61) = false := e61
  clear h61 e61 hyb
  obtain ⟨a', ha'⟩ : ∃ a', atV s (i + 1) = a' := ⟨_, rfl⟩
  have HA' := Lib.hid ha'
  have a1' : (a' == 1) = false := by rw [← ha', ← at_let]; exact hlt
  clear ha ha' hk hxb h1 h2 h3 h4 h39 h35 h58 e39 e35 e58 q61 hlt 
  go_enter Try.func19, Try.ntmps19
  go_wp2_with (first | (go_at_call 31; (with_reducible refine (rat_any _ _ _ hs).mono ?_); rw [HA.out]; rintro e w' ⟨rfl, rfl⟩) | (go_at_call 31; (with_reducible refine (rat1 s i _ hs).mono ?_); rw [HA'.out]; rintro e w' ⟨rfl, rfl⟩))
  refine bodyPost_ret (v := .tuple #[.agg #[.int .i64 0, .string ⟨#[]⟩, .int .i64 0, .int .i64 i], .int .i64 0, .int .i64 10]) (by simp [results, Try.results19, go_sem, *]) rfl ?_
  refine ⟨?_, .inl ⟨_, F.out, _, _, _, rfl⟩⟩
  (repeat' (first | (with_reducible exact World.grownBy.refl _ _) | (with_reducible assumption) | (with_reducible refine grown_alloc ?_ _) | (with_reducible refine grown_drewN ?_ _) | (with_reducible refine grown_setOwn ?_ ?_ _) | omega))
set_option maxRecDepth 100000 in
set_option maxHeartbeats 4000000 in
theorem rtok_none58e (s : ByteArray) (i : Nat) (w : World) (hs : s.size ≤ 100000) (hi : i < s.size) (h1 : letB (byteU s i) = false) (h2 : digB (byteU s i) = false) (h3 : signB (byteU s i) = false) (h4 : markB (byteU s i) = false) (h39 : (byteU s i == 39) = false) (h35 : (byteU s i == 35) = false) (h58 : (byteU s i == 58) = true) (hi1 : ¬ i + 1 < s.size) :
    Calls Try.prog 19 #[.string s, .int .i64 i] w (RPost (tokV (s.data.toList.drop i)) w i i) := by
  obtain ⟨x, hx⟩ : ∃ x, s[i] = x := ⟨_, rfl⟩
  have hxb : byteU s i = x := by rw [byteU_lt hi, hx]
  obtain ⟨a, ha⟩ : ∃ a, atV s i = a := ⟨_, rfl⟩
  have HA := Lib.hid ha
  have hk : atV s i = kindV x := by unfold atV; rw [dif_pos hi, hx]
  have a1 : (a == 1) = false := by rw [← ha, hk, kind_letter, ← hxb]; exact h1
  have a2 : (a == 2) = false := by rw [← ha, hk, kind_digit, ← hxb]; exact h2
  have a3 : (a == 3) = false := by rw [← ha, hk, kind_sign, ← hxb]; exact h3
  have a4 : (a == 4) = false := by rw [← ha, hk, kind_markb, ← hxb]; exact h4
  have b0 : (0 : Int) ≤ (i : Int) := by omega
  have b01 : (i : Int) < (s.size : Int) := by omega
  have b03 : (0 : Int) ≤ (i : Int) + 1 := by omega
  rw [hxb] at h1 h2 h3 h4 h39 h35 h58
  have e39 := u8_eq x 39 (by omega)
  rw [show (x == UInt8.ofNat 39) = false from h39] at e39
  have n39 : ((x.toNat : Int) == 39) = false := e39
  have e35 := u8_eq x 35 (by omega)
  rw [show (x == UInt8.ofNat 35) = false from h35] at e35
  have n35 : ((x.toNat : Int) == 35) = false := e35
  have e58 := u8_eq x 58 (by omega)
  rw [show (x == UInt8.ofNat 58) = true from h58] at e58
  have n58 : ((x.toNat : Int) == 58) = true := e58
  have hd0 : s.data.toList.drop (i + 1) = [] := List.drop_eq_nil_of_le (by have : s.data.toList.length = s.size := rfl; omega)
  have q61 : hd (· == 61) (s.data.toList.drop (i + 1)) = false := by rw [hd0]; rfl
  have hlt : hd letB (s.data.toList.drop (i + 1)) = false := by rw [hd0]; rfl
  have F : Hid (tokV (s.data.toList.drop i) = .err 10) := by
    show _ = _
    rw [byte_cons hi, hxb]
    simp only [tokV, h1, h2, h3, h4, h39, h35, h58, q61, hlt, Bool.and_false, Bool.false_eq_true, if_false]
  have d1 : decide (i + 1 < s.size) = false := decide_eq_false hi1
  have d1' : decide ((i : Int) + 1 < (s.size : Int)) = false := decide_eq_false (by omega)
  obtain ⟨a', ha'⟩ : ∃ a', atV s (i + 1) = a' := ⟨_, rfl⟩
  have HA' := Lib.hid ha'
  have a1' : (a' == 1) = false := by rw [← ha', ← at_let]; exact hlt
  clear ha ha' hk hxb h1 h2 h3 h4 h39 h35 h58 e39 e35 e58 q61 hlt hd0 hi1
  go_enter Try.func19, Try.ntmps19
  go_wp2_with (first | (go_at_call 31; (with_reducible refine (rat_any _ _ _ hs).mono ?_); rw [HA.out]; rintro e w' ⟨rfl, rfl⟩) | (go_at_call 31; (with_reducible refine (rat1 s i _ hs).mono ?_); rw [HA'.out]; rintro e w' ⟨rfl, rfl⟩))
  refine bodyPost_ret (v := .tuple #[.agg #[.int .i64 0, .string ⟨#[]⟩, .int .i64 0, .int .i64 i], .int .i64 0, .int .i64 10]) (by simp [results, Try.results19, go_sem, *]) rfl ?_
  refine ⟨?_, .inl ⟨_, F.out, _, _, _, rfl⟩⟩
  (repeat' (first | (with_reducible exact World.grownBy.refl _ _) | (with_reducible assumption) | (with_reducible refine grown_alloc ?_ _) | (with_reducible refine grown_drewN ?_ _) | (with_reducible refine grown_setOwn ?_ ?_ _) | omega))
theorem rtoken_any (s : ByteArray) (i : Nat) (w : World) (hs : s.size ≤ 100000) (hi : i < s.size) : Calls Try.prog 19 #[.string s, .int .i64 i] w (RPost (tokV (s.data.toList.drop i)) w i i) := by
  have hb := fun (p : UInt8 → Bool) => show hd p (s.data.toList.drop i) = p (byteU s i) by rw [byte_cons hi]; rfl
  cases h1 : letB (byteU s i)
  · cases h2 : digB (byteU s i)
    · cases h3 : signB (byteU s i)
      · cases h4 : markB (byteU s i)
        · cases h39 : byteU s i == 39
          · cases h35 : byteU s i == 35
            · cases h58 : byteU s i == 58
              · exact rtok_none s i w hs hi h1 h2 h3 h4 h39 h35 h58
              · have g58 : byteU s i = 58 := by simpa using h58
                by_cases hi1 : i + 1 < s.size
                · cases h61 : byteU s (i + 1) == 61
                  · cases hlt : hd letB (s.data.toList.drop (i + 1))
                    · exact rtok_none58 s i w hs hi h1 h2 h3 h4 h39 h35 h58 hi1 h61 hlt
                    · by_cases h24 : nmLen (s.data.toList.drop (i + 1)) > 24
                      · exact rtok_par_long s i w hs hi g58 h61 hlt _ rfl h24
                      · exact rtok_par s i w hs hi g58 h61 hlt _ rfl h24
                  · exact rtok_assign s i w hs hi g58 (by simpa using h61)
                · exact rtok_none58e s i w hs hi h1 h2 h3 h4 h39 h35 h58 hi1
            · exact rtok_hash s i w hs hi (by simpa using h35)
          · exact rtok_text s i w hs hi (by simpa using h39)
        · exact rtok_mark s i w hs hi h4
      · cases h5 : hd signB (s.data.toList.drop (i + 1))
        · exact rtok_sign1 s i w hs hi (by rw [hb]; exact h3) h5
        · exact rtok_sign2 s i w hs hi (by rw [hb]; exact h3) h5
    · exact rtok_num s i w hs hi (by rw [hb]; exact h2)
  · by_cases h24 : nmLen (s.data.toList.drop i) > 24
    · exact rtok_long s i w hs hi (by rw [hb]; exact h1) _ rfl h24
    · cases hc : colonB (s.data.toList.drop (i + nmLen (s.data.toList.drop i)))
      · exact rtok_name s i w hs hi (by rw [hb]; exact h1) _ rfl h24 hc
      · exact rtok_kw s i w hs hi (by rw [hb]; exact h1) _ rfl h24 hc
end Go.Proofs.Ytdcibeagljeioaa

/- Chapter 06: the reference's symbol: signs. -/
import Derived.Test.YtdcibeagljeioaaR8
namespace Go.Proofs.Ytdcibeagljeioaa
open Go.ChangeShapes Go.WideShapes Go.ChangeAt Go.RowKit
set_option linter.unusedVariables false
set_option linter.unusedSimpArgs false
set_option maxHeartbeats 4000000 in
theorem rsym_sign2 (s : ByteArray) (i : Nat) (w : World) (hs : s.size ≤ 100000) (hi : i + 1 ≤ s.size) (h40 : hd (· == 40) (s.data.toList.drop (i + 1)) = false) (hsg : hd signB (s.data.toList.drop (i + 1)) = true) (hsg2 : hd signB (s.data.toList.drop (i + 1 + 1)) = true) :
    Calls Try.prog 35 #[.string s, .agg #[.int .i64 0, .string ⟨#[]⟩, .int .i64 0, .int .i64 i]] w (RPost (hashV (s.data.toList.drop (i + 1))) w i (i + 1)) := by
  have F : Hid (hashV (s.data.toList.drop (i + 1)) = .ok ⟨6, (s.data.toList.drop (i + 1)).take 2, 0⟩ 2) := by show _ = _; rw [hash_sym h40, sym_sign hsg, sg_two hsg (by rw [List.drop_drop]; exact hsg2)]
  rw [hd_byte (p := (· == 40)) rfl] at h40
  rw [at_sign] at hsg hsg2
  have hlt' : i + 1 < s.size := at_lt (by simpa using hsg) (by decide)
  have hlt2 : i + 1 + 1 < s.size := at_lt (by simpa using hsg2) (by decide)
  obtain ⟨a, ha⟩ : ∃ a, atV s (i + 1) = a := ⟨_, rfl⟩
  have HA := Lib.hid ha
  obtain ⟨a2, ha2⟩ : ∃ a2, atV s (i + 1 + 1) = a2 := ⟨_, rfl⟩
  have HA2 := Lib.hid ha2
  rw [ha] at hsg
  rw [ha2] at hsg2
  clear ha ha2
  have b3 : (0 : Int) ≤ (i : Int) + 1 := by omega
  rw [byteU_lt hlt'] at h40
  have d1 : decide (i + 1 < s.size) = true := decide_eq_true hlt'
  have d1' : decide ((i : Int) + 1 < (s.size : Int)) = true := decide_eq_true (by omega)
  have b2 : (i : Int) + 1 < (s.size : Int) := by omega
  have b4 : (i : Int) + 1 + 1 + 1 ≤ (s.size : Int) := by omega
  have b5 : (i : Int) + 1 ≤ (i : Int) + 1 + 1 + 1 := by omega
  have b6 : (0 : Int) ≤ (i : Int) + 1 + 1 + 1 := by omega
  have b7 : ((i : Int) + 1 + 1 + 1).toNat = i + 1 + 2 := by omega
  have b8 : ((i : Int) + 1).toNat = i + 1 := by omega
  have b9 : i + 1 ≤ i + 1 + 2 := by omega
  have b10 : i + 1 + 2 ≤ s.size := by omega
  have HX := Lib.hid (ext_list s (i + 1) 2)
  obtain ⟨t, ht⟩ : ∃ t, s.extract (i + 1) (i + 1 + 2) = t := ⟨_, rfl⟩
  have HT := Lib.hid ht
  obtain ⟨x, hx⟩ : ∃ x, s[i + 1] = x := ⟨_, rfl⟩
  rw [hx] at h40
  have e40 := u8_eq x 40 (by omega)
  rw [show (x == UInt8.ofNat 40) = false from h40] at e40
  have n40 : ((x.toNat : Int) == 40) = false := e40
  clear h40 e40
  go_enter Try.func35, Try.ntmps35
  go_wp2_with (first | (go_at_call 31; (with_reducible refine (rat1 _ _ _ hs).mono ?_); rw [HA.out]; rintro e w' ⟨rfl, rfl⟩) | (go_at_call 31; (with_reducible refine (rat2 _ _ _ hs).mono ?_); rw [HA2.out]; rintro e w' ⟨rfl, rfl⟩))
  refine bodyPost_ret (v := .tuple #[.agg #[.int .i64 6, .string t, .int .i64 0, .int .i64 i], .int .i64 ((i : Int) + 1 + 1 + 1), .int .i64 0]) (by simp [results, Try.results35, go_sem, *]) rfl ?_
  refine ⟨?_, .inr ⟨_, _, t, F.out, by rw [← HT.out]; exact HX.out, rfl⟩⟩
  repeat' (first | (with_reducible exact World.grownBy.refl _ _) | (with_reducible assumption) | (with_reducible refine grown_alloc ?_ _) | (with_reducible refine grown_drewN ?_ _) | (with_reducible refine grown_setOwn ?_ ?_ _) | omega)
set_option maxHeartbeats 4000000 in
theorem rsym_sign1 (s : ByteArray) (i : Nat) (w : World) (hs : s.size ≤ 100000) (hi : i + 1 ≤ s.size) (h40 : hd (· == 40) (s.data.toList.drop (i + 1)) = false) (hsg : hd signB (s.data.toList.drop (i + 1)) = true) (hsg2 : hd signB (s.data.toList.drop (i + 1 + 1)) = false) :
    Calls Try.prog 35 #[.string s, .agg #[.int .i64 0, .string ⟨#[]⟩, .int .i64 0, .int .i64 i]] w (RPost (hashV (s.data.toList.drop (i + 1))) w i (i + 1)) := by
  have F : Hid (hashV (s.data.toList.drop (i + 1)) = .ok ⟨6, (s.data.toList.drop (i + 1)).take 1, 0⟩ 1) := by show _ = _; rw [hash_sym h40, sym_sign hsg, sg_one hsg (by rw [List.drop_drop]; exact hsg2)]
  rw [hd_byte (p := (· == 40)) rfl] at h40
  rw [at_sign] at hsg hsg2
  have hlt' : i + 1 < s.size := at_lt (by simpa using hsg) (by decide)
  obtain ⟨a, ha⟩ : ∃ a, atV s (i + 1) = a := ⟨_, rfl⟩
  have HA := Lib.hid ha
  obtain ⟨a2, ha2⟩ : ∃ a2, atV s (i + 1 + 1) = a2 := ⟨_, rfl⟩
  have HA2 := Lib.hid ha2
  rw [ha] at hsg
  rw [ha2] at hsg2
  clear ha ha2
  have b3 : (0 : Int) ≤ (i : Int) + 1 := by omega
  rw [byteU_lt hlt'] at h40
  have d1 : decide (i + 1 < s.size) = true := decide_eq_true hlt'
  have d1' : decide ((i : Int) + 1 < (s.size : Int)) = true := decide_eq_true (by omega)
  have b2 : (i : Int) + 1 < (s.size : Int) := by omega
  have b4 : (i : Int) + 1 + 1 ≤ (s.size : Int) := by omega
  have b5 : (i : Int) + 1 ≤ (i : Int) + 1 + 1 := by omega
  have b6 : (0 : Int) ≤ (i : Int) + 1 + 1 := by omega
  have b7 : ((i : Int) + 1 + 1).toNat = i + 1 + 1 := by omega
  have b8 : ((i : Int) + 1).toNat = i + 1 := by omega
  have b9 : i + 1 ≤ i + 1 + 1 := by omega
  have b10 : i + 1 + 1 ≤ s.size := by omega
  have HX := Lib.hid (ext_list s (i + 1) 1)
  obtain ⟨t, ht⟩ : ∃ t, s.extract (i + 1) (i + 1 + 1) = t := ⟨_, rfl⟩
  have HT := Lib.hid ht
  obtain ⟨x, hx⟩ : ∃ x, s[i + 1] = x := ⟨_, rfl⟩
  rw [hx] at h40
  have e40 := u8_eq x 40 (by omega)
  rw [show (x == UInt8.ofNat 40) = false from h40] at e40
  have n40 : ((x.toNat : Int) == 40) = false := e40
  clear h40 e40
  go_enter Try.func35, Try.ntmps35
  go_wp2_with (first | (go_at_call 31; (with_reducible refine (rat1 _ _ _ hs).mono ?_); rw [HA.out]; rintro e w' ⟨rfl, rfl⟩) | (go_at_call 31; (with_reducible refine (rat2 _ _ _ hs).mono ?_); rw [HA2.out]; rintro e w' ⟨rfl, rfl⟩))
  refine bodyPost_ret (v := .tuple #[.agg #[.int .i64 6, .string t, .int .i64 0, .int .i64 i], .int .i64 ((i : Int) + 1 + 1), .int .i64 0]) (by simp [results, Try.results35, go_sem, *]) rfl ?_
  refine ⟨?_, .inr ⟨_, _, t, F.out, by rw [← HT.out]; exact HX.out, rfl⟩⟩
  repeat' (first | (with_reducible exact World.grownBy.refl _ _) | (with_reducible assumption) | (with_reducible refine grown_alloc ?_ _) | (with_reducible refine grown_drewN ?_ _) | (with_reducible refine grown_setOwn ?_ ?_ _) | omega)
end Go.Proofs.Ytdcibeagljeioaa

/- Chapter 06: the reference's token: parameters. -/
import Derived.Test.YtdcibeagljeioaaR18
namespace Go.Proofs.Ytdcibeagljeioaa
open Go.ChangeShapes Go.WideShapes Go.ChangeAt Go.RowKit
set_option linter.unusedVariables false
set_option linter.unusedSimpArgs false
set_option maxRecDepth 100000 in
set_option maxHeartbeats 4000000 in
theorem rtok_par_long (s : ByteArray) (i : Nat) (w : World) (hs : s.size ≤ 100000) (hi : i < s.size) (h58 : byteU s i = 58) (h61 : (byteU s (i + 1) == 61) = false) (hlt : hd letB (s.data.toList.drop (i + 1)) = true) (n : Nat) (hn : nmLen (s.data.toList.drop (i + 1)) = n) (h24 : n > 24) :
    Calls Try.prog 19 #[.string s, .int .i64 i] w (RPost (tokV (s.data.toList.drop i)) w i i) := by
  have hi1 : i + 1 < s.size := by
    have := hd_pos hlt
    simp at this
    have : s.data.size = s.size := rfl
    omega
  have F : Hid (tokV (s.data.toList.drop i) = .err 12) := by
    show _ = _
    rw [byte_cons hi, h58]
    show (if hd (· == 61) (s.data.toList.drop (i + 1)) then Took.ok (Tok.mk 9 [] 0) 2 else if hd letB (s.data.toList.drop (i + 1)) then (if nmLen (s.data.toList.drop (i + 1)) > 24 then .err 12 else .ok ⟨8, (s.data.toList.drop (i + 1)).take (nmLen (s.data.toList.drop (i + 1))), 0⟩ (nmLen (s.data.toList.drop (i + 1)) + 1)) else .err 10) = _
    rw [hd_byte (p := (· == 61)) rfl, if_neg (by rw [h61]; simp), if_pos hlt, hn, if_pos h24]
  have h0 : atV s i = 0 := by unfold atV; rw [dif_pos hi, ← byteU_lt hi, h58]; rfl
  obtain ⟨a, ha⟩ : ∃ a, a = (0 : Int) := ⟨_, rfl⟩
  rw [← ha] at h0
  have HA := Lib.hid h0
  have a1 : (a == 1) = false := by rw [ha]; rfl
  have a2 : (a == 2) = false := by rw [ha]; rfl
  have a3 : (a == 3) = false := by rw [ha]; rfl
  have a4 : (a == 4) = false := by rw [ha]; rfl
  have hx : s[i] = 58 := by rw [← byteU_lt hi, h58]
  have b0 : (0 : Int) ≤ (i : Int) := by omega
  have b01 : (i : Int) < (s.size : Int) := by omega
  have b02 : (i : Int) + 1 < (s.size : Int) := by omega
  have b03 : (0 : Int) ≤ (i : Int) + 1 := by omega
  have d1 : decide (i + 1 < s.size) = true := decide_eq_true hi1
  have d1' : decide ((i : Int) + 1 < (s.size : Int)) = true := decide_eq_true b02
  obtain ⟨y, hy⟩ : ∃ y, s[i + 1] = y := ⟨_, rfl⟩
  have hyb : byteU s (i + 1) = y := by rw [byteU_lt hi1, hy]
  have e61 := u8_eq y 61 (by omega)
  rw [show (y == UInt8.ofNat 61) = false from by rw [← hyb]; exact h61] at e61
  have n61 : ((y.toNat : Int) == 61) = false := e61
  obtain ⟨a', ha'⟩ : ∃ a', a' = (1 : Int) := ⟨_, rfl⟩
  have HA' : Hid (atV s (i + 1) = a') := by show _ = _; rw [ha']; have := at_let s (i + 1); rw [hlt] at this; simpa using this.symm
  have a1' : (a' == 1) = true := by rw [ha']; rfl
  have hbn := nm_bd s (i + 1) (Nat.le_of_lt hi1)
  rw [hn] at hbn
  have HN := Lib.hid hn
  obtain ⟨q, hq⟩ : ∃ q, q = i + 1 + n := ⟨_, rfl⟩
  have HQ := Lib.hid hq
  rw [← hq] at hbn
  have hi1' : i + 1 ≤ s.size := by omega
  have t24 : decide (24 < (q : Int) - (i : Int) - 1) = true := by exact decide_eq_true (by omega)
  clear hq hn hlt h61 e61 ha ha' h0 h58 hyb
  go_enter Try.func19, Try.ntmps19
  go_wp2_with (first | (go_at_call 31; (with_reducible refine (rat_any _ _ _ hs).mono ?_); rw [HA.out]; rintro e w' ⟨rfl, rfl⟩) | (go_at_call 31; (with_reducible refine (rat1 s i _ hs).mono ?_); rw [HA'.out]; rintro e w' ⟨rfl, rfl⟩) | (go_at_call 32; (with_reducible refine (rname1 s i _ hs hi1').mono ?_); rw [HN.out, ← HQ.out]; rintro e w' ⟨rfl, rfl⟩))
  refine bodyPost_ret (v := .tuple #[.agg #[.int .i64 0, .string ⟨#[]⟩, .int .i64 0, .int .i64 i], .int .i64 (0), .int .i64 12]) (by simp [results, Try.results19, go_sem, *]) rfl ?_
  refine ⟨?_, .inl ⟨_, F.out, _, _, _, rfl⟩⟩
  (repeat' (first | (with_reducible exact World.grownBy.refl _ _) | (with_reducible assumption) | (with_reducible refine grown_alloc ?_ _) | (with_reducible refine grown_drewN ?_ _) | (with_reducible refine grown_setOwn ?_ ?_ _) | omega))
set_option maxRecDepth 100000 in
set_option maxHeartbeats 4000000 in
theorem rtok_par (s : ByteArray) (i : Nat) (w : World) (hs : s.size ≤ 100000) (hi : i < s.size) (h58 : byteU s i = 58) (h61 : (byteU s (i + 1) == 61) = false) (hlt : hd letB (s.data.toList.drop (i + 1)) = true) (n : Nat) (hn : nmLen (s.data.toList.drop (i + 1)) = n) (h24 : ¬ n > 24) :
    Calls Try.prog 19 #[.string s, .int .i64 i] w (RPost (tokV (s.data.toList.drop i)) w i i) := by
  have hi1 : i + 1 < s.size := by
    have := hd_pos hlt
    simp at this
    have : s.data.size = s.size := rfl
    omega
  have F : Hid (tokV (s.data.toList.drop i) = .ok ⟨8, (s.data.toList.drop (i + 1)).take n, 0⟩ (n + 1)) := by
    show _ = _
    rw [byte_cons hi, h58]
    show (if hd (· == 61) (s.data.toList.drop (i + 1)) then Took.ok (Tok.mk 9 [] 0) 2 else if hd letB (s.data.toList.drop (i + 1)) then (if nmLen (s.data.toList.drop (i + 1)) > 24 then .err 12 else .ok ⟨8, (s.data.toList.drop (i + 1)).take (nmLen (s.data.toList.drop (i + 1))), 0⟩ (nmLen (s.data.toList.drop (i + 1)) + 1)) else .err 10) = _
    rw [hd_byte (p := (· == 61)) rfl, if_neg (by rw [h61]; simp), if_pos hlt, hn, if_neg h24]
  have h0 : atV s i = 0 := by unfold atV; rw [dif_pos hi, ← byteU_lt hi, h58]; rfl
  obtain ⟨a, ha⟩ : ∃ a, a = (0 : Int) := ⟨_, rfl⟩
  rw [← ha] at h0
  have HA := Lib.hid h0
  have a1 : (a == 1) = false := by rw [ha]; rfl
  have a2 : (a == 2) = false := by rw [ha]; rfl
  have a3 : (a == 3) = false := by rw [ha]; rfl
  have a4 : (a == 4) = false := by rw [ha]; rfl
  have hx : s[i] = 58 := by rw [← byteU_lt hi, h58]
  have b0 : (0 : Int) ≤ (i : Int) := by omega
  have b01 : (i : Int) < (s.size : Int) := by omega
  have b02 : (i : Int) + 1 < (s.size : Int) := by omega
  have b03 : (0 : Int) ≤ (i : Int) + 1 := by omega
  have d1 : decide (i + 1 < s.size) = true := decide_eq_true hi1
  have d1' : decide ((i : Int) + 1 < (s.size : Int)) = true := decide_eq_true b02
  obtain ⟨y, hy⟩ : ∃ y, s[i + 1] = y := ⟨_, rfl⟩
  have hyb : byteU s (i + 1) = y := by rw [byteU_lt hi1, hy]
  have e61 := u8_eq y 61 (by omega)
  rw [show (y == UInt8.ofNat 61) = false from by rw [← hyb]; exact h61] at e61
  have n61 : ((y.toNat : Int) == 61) = false := e61
  obtain ⟨a', ha'⟩ : ∃ a', a' = (1 : Int) := ⟨_, rfl⟩
  have HA' : Hid (atV s (i + 1) = a') := by show _ = _; rw [ha']; have := at_let s (i + 1); rw [hlt] at this; simpa using this.symm
  have a1' : (a' == 1) = true := by rw [ha']; rfl
  have hbn := nm_bd s (i + 1) (Nat.le_of_lt hi1)
  rw [hn] at hbn
  have HN := Lib.hid hn
  obtain ⟨q, hq⟩ : ∃ q, q = i + 1 + n := ⟨_, rfl⟩
  have HQ := Lib.hid hq
  rw [← hq] at hbn
  have hi1' : i + 1 ≤ s.size := by omega
  have t24 : decide (24 < (q : Int) - (i : Int) - 1) = false := by exact decide_eq_false (by omega)
  have b1 : (q : Int) ≤ (s.size : Int) := by omega
  have b2 : (i : Int) + 1 ≤ (q : Int) := by omega
  have b3 : (0 : Int) ≤ (q : Int) := by omega
  have b4 : ((q : Int)).toNat = q := by omega
  have b4' : ((i : Int) + 1).toNat = i + 1 := by omega
  have b5 : i + 1 ≤ q := by omega
  have b6 : q ≤ s.size := by omega
  have b7 : (0 : Int) ≤ (i : Int) + 1 := by omega
  have hx := ext_list s (i + 1) (n)
  rw [show i + 1 + (n) = q by omega] at hx
  have HX := Lib.hid hx
  obtain ⟨t, ht⟩ : ∃ t, s.extract (i + 1) (q) = t := ⟨_, rfl⟩
  have HT := Lib.hid ht
  clear hx
  clear hq hn hlt h61 e61 ha ha' h0 h58 hyb
  go_enter Try.func19, Try.ntmps19
  go_wp2_with (first | (go_at_call 31; (with_reducible refine (rat_any _ _ _ hs).mono ?_); rw [HA.out]; rintro e w' ⟨rfl, rfl⟩) | (go_at_call 31; (with_reducible refine (rat1 s i _ hs).mono ?_); rw [HA'.out]; rintro e w' ⟨rfl, rfl⟩) | (go_at_call 32; (with_reducible refine (rname1 s i _ hs hi1').mono ?_); rw [HN.out, ← HQ.out]; rintro e w' ⟨rfl, rfl⟩))
  refine bodyPost_ret (v := .tuple #[.agg #[.int .i64 8, .string t, .int .i64 0, .int .i64 i], .int .i64 ((q : Int)), .int .i64 0]) (by simp [results, Try.results19, go_sem, *]) rfl ?_
  refine ⟨?_, .inr ⟨_, _, t, F.out, by rw [← HT.out]; exact HX.out, by have := HQ.out; rw [show i + (n + 1) = q by omega] <;> rfl⟩⟩
  (repeat' (first | (with_reducible exact World.grownBy.refl _ _) | (with_reducible assumption) | (with_reducible refine grown_alloc ?_ _) | (with_reducible refine grown_drewN ?_ _) | (with_reducible refine grown_setOwn ?_ ?_ _) | omega))
end Go.Proofs.Ytdcibeagljeioaa

/- Chapter 06: the reference's token: signs. -/
import Derived.Test.YtdcibeagljeioaaR11
namespace Go.Proofs.Ytdcibeagljeioaa
open Go.ChangeShapes Go.WideShapes Go.ChangeAt Go.RowKit
set_option linter.unusedVariables false
set_option linter.unusedSimpArgs false
theorem tok_signR {l : Bs} (h : hd signB l = true) : tokV l = .ok ⟨3, l.take (sgLen l), 0⟩ (sgLen l) := by
  cases l with
  | nil => cases h
  | cons c r =>
    have h' : signB c = true := h
    simp [hd, signB, signs] at h
    unfold tokV
    rcases h with rfl | rfl | rfl | rfl | rfl | rfl | rfl | rfl | rfl | rfl | rfl | rfl <;> rfl
set_option maxRecDepth 100000 in
set_option maxHeartbeats 4000000 in
theorem rtok_sign2 (s : ByteArray) (i : Nat) (w : World) (hs : s.size ≤ 100000) (hi : i < s.size) (hsg : hd signB (s.data.toList.drop i) = true) (hsg2 : hd signB (s.data.toList.drop (i + 1)) = true) :
    Calls Try.prog 19 #[.string s, .int .i64 i] w (RPost (tokV (s.data.toList.drop i)) w i i) := by
  have F : Hid (tokV (s.data.toList.drop i) = .ok ⟨3, (s.data.toList.drop i).take 2, 0⟩ 2) := by
    show _ = _
    rw [tok_signR hsg, sg_two hsg (by rw [List.drop_drop]; exact hsg2)]
  rw [at_sign] at hsg hsg2
  have hi2 : i + 1 < s.size := at_lt (by simpa using hsg2) (by decide)
  have h3 : atV s i = 3 := by simpa using hsg
  clear hsg
  obtain ⟨a, ha⟩ : ∃ a, a = (3 : Int) := ⟨_, rfl⟩
  rw [← ha] at h3
  have HA := Lib.hid h3
  have a1 : (a == 1) = false := by rw [ha]; rfl
  have a2 : (a == 2) = false := by rw [ha]; rfl
  have a3 : (a == 3) = true := by rw [ha]; rfl
  obtain ⟨q, hq⟩ : ∃ q, atV s (i + 1) = q := ⟨_, rfl⟩
  have HA2 := Lib.hid hq
  rw [hq] at hsg2
  clear ha h3 hq
  have b1 : (i : Int) + 1 + 1 ≤ (s.size : Int) := by omega
  have b2 : (i : Int) ≤ (i : Int) + 1 + 1 := by omega
  have b3 : (0 : Int) ≤ (i : Int) + 1 + 1 := by omega
  have b4 : ((i : Int) + 1 + 1).toNat = i + 2 := by omega
  have b5 : i ≤ i + 2 := by omega
  have b6 : i + 2 ≤ s.size := by omega
  have HX := Lib.hid (ext_list s i 2)
  obtain ⟨t, ht⟩ : ∃ t, s.extract i (i + 2) = t := ⟨_, rfl⟩
  have HT := Lib.hid ht
  go_enter Try.func19, Try.ntmps19
  go_wp2_with (first | (go_at_call 31; (with_reducible refine (rat_any _ _ _ hs).mono ?_); rw [HA.out]; rintro e w' ⟨rfl, rfl⟩) | (go_at_call 31; (with_reducible refine (rat1 _ _ _ hs).mono ?_); rw [HA2.out]; rintro e w' ⟨rfl, rfl⟩))
  refine bodyPost_ret (v := .tuple #[.agg #[.int .i64 3, .string t, .int .i64 0, .int .i64 i], .int .i64 ((i : Int) + 1 + 1), .int .i64 0]) (by simp [results, Try.results19, go_sem, *]) rfl ?_
  refine ⟨?_, .inr ⟨_, _, t, F.out, by rw [← HT.out]; exact HX.out, rfl⟩⟩
  repeat' (first | (with_reducible exact World.grownBy.refl _ _) | (with_reducible assumption) | (with_reducible refine grown_alloc ?_ _) | (with_reducible refine grown_drewN ?_ _) | (with_reducible refine grown_setOwn ?_ ?_ _) | omega)
set_option maxRecDepth 100000 in
set_option maxHeartbeats 4000000 in
theorem rtok_sign1 (s : ByteArray) (i : Nat) (w : World) (hs : s.size ≤ 100000) (hi : i < s.size) (hsg : hd signB (s.data.toList.drop i) = true) (hsg2 : hd signB (s.data.toList.drop (i + 1)) = false) :
    Calls Try.prog 19 #[.string s, .int .i64 i] w (RPost (tokV (s.data.toList.drop i)) w i i) := by
  have F : Hid (tokV (s.data.toList.drop i) = .ok ⟨3, (s.data.toList.drop i).take 1, 0⟩ 1) := by
    show _ = _
    rw [tok_signR hsg, sg_one hsg (by rw [List.drop_drop]; exact hsg2)]
  rw [at_sign] at hsg hsg2
  have hi2 : i < s.size := hi
  have h3 : atV s i = 3 := by simpa using hsg
  clear hsg
  obtain ⟨a, ha⟩ : ∃ a, a = (3 : Int) := ⟨_, rfl⟩
  rw [← ha] at h3
  have HA := Lib.hid h3
  have a1 : (a == 1) = false := by rw [ha]; rfl
  have a2 : (a == 2) = false := by rw [ha]; rfl
  have a3 : (a == 3) = true := by rw [ha]; rfl
  obtain ⟨q, hq⟩ : ∃ q, atV s (i + 1) = q := ⟨_, rfl⟩
  have HA2 := Lib.hid hq
  rw [hq] at hsg2
  clear ha h3 hq
  have b1 : (i : Int) + 1 ≤ (s.size : Int) := by omega
  have b2 : (i : Int) ≤ (i : Int) + 1 := by omega
  have b3 : (0 : Int) ≤ (i : Int) + 1 := by omega
  have b4 : ((i : Int) + 1).toNat = i + 1 := by omega
  have b5 : i ≤ i + 1 := by omega
  have b6 : i + 1 ≤ s.size := by omega
  have HX := Lib.hid (ext_list s i 1)
  obtain ⟨t, ht⟩ : ∃ t, s.extract i (i + 1) = t := ⟨_, rfl⟩
  have HT := Lib.hid ht
  go_enter Try.func19, Try.ntmps19
  go_wp2_with (first | (go_at_call 31; (with_reducible refine (rat_any _ _ _ hs).mono ?_); rw [HA.out]; rintro e w' ⟨rfl, rfl⟩) | (go_at_call 31; (with_reducible refine (rat1 _ _ _ hs).mono ?_); rw [HA2.out]; rintro e w' ⟨rfl, rfl⟩))
  refine bodyPost_ret (v := .tuple #[.agg #[.int .i64 3, .string t, .int .i64 0, .int .i64 i], .int .i64 ((i : Int) + 1), .int .i64 0]) (by simp [results, Try.results19, go_sem, *]) rfl ?_
  refine ⟨?_, .inr ⟨_, _, t, F.out, by rw [← HT.out]; exact HX.out, rfl⟩⟩
  repeat' (first | (with_reducible exact World.grownBy.refl _ _) | (with_reducible assumption) | (with_reducible refine grown_alloc ?_ _) | (with_reducible refine grown_drewN ?_ _) | (with_reducible refine grown_setOwn ?_ ?_ _) | omega)
end Go.Proofs.Ytdcibeagljeioaa

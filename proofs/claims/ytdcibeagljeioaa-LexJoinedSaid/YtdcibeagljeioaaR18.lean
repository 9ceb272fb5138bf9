/- Chapter 06: the reference's token: names. -/
import Derived.Test.YtdcibeagljeioaaR15
import Derived.Test.YtdcibeagljeioaaW9
namespace Go.Proofs.Ytdcibeagljeioaa
open Go.ChangeShapes Go.WideShapes Go.ChangeAt Go.RowKit
set_option linter.unusedVariables false
set_option linter.unusedSimpArgs false
set_option maxRecDepth 100000 in
set_option maxHeartbeats 4000000 in
theorem rtok_long (s : ByteArray) (i : Nat) (w : World) (hs : s.size ≤ 100000) (hi : i < s.size) (hlt : hd letB (s.data.toList.drop i) = true) (n : Nat) (hn : nmLen (s.data.toList.drop i) = n) (h24 : n > 24) :
    Calls Try.prog 19 #[.string s, .int .i64 i] w (RPost (tokV (s.data.toList.drop i)) w i i) := by
  have F : Hid (tokV (s.data.toList.drop i) = .err 12) := by
    show _ = _
    obtain ⟨c, r, hcr, hl⟩ := hd_cons hlt
    rw [hcr] at hn ⊢
    rw [tok_wrd hl, wrd_long (by rw [hn]; exact h24)]
  obtain ⟨a, ha⟩ : ∃ a, a = (1 : Int) := ⟨_, rfl⟩
  have HA : Hid (atV s i = a) := by show _ = _; rw [ha]; have := at_let s i; rw [hlt] at this; simpa using this.symm
  have a1 : (a == 1) = true := by rw [ha]; rfl
  clear ha
  have hbn := nm_bd s i (Nat.le_of_lt hi)
  rw [hn] at hbn
  have HN := Lib.hid hn
  obtain ⟨q, hq⟩ : ∃ q, q = i + n := ⟨_, rfl⟩
  have HQ := Lib.hid hq
  rw [← hq] at hbn
  have t24 : decide (24 < (q : Int) - (i : Int)) = true := decide_eq_true (by omega)
  have hi' : i ≤ s.size := by omega
  clear hq hn hlt
  go_enter Try.func19, Try.ntmps19
  go_wp2_with (first | (go_at_call 31; (with_reducible refine (rat_any _ _ _ hs).mono ?_); rw [HA.out]; rintro e w' ⟨rfl, rfl⟩) | (go_at_call 32; (with_reducible refine (rname_any _ _ _ hs hi').mono ?_); rw [HN.out, ← HQ.out]; rintro e w' ⟨rfl, rfl⟩))
  refine bodyPost_ret (v := .tuple #[.agg #[.int .i64 0, .string ⟨#[]⟩, .int .i64 0, .int .i64 i], .int .i64 (0), .int .i64 12]) (by simp [results, Try.results19, go_sem, *]) rfl ?_
  refine ⟨?_, .inl ⟨_, F.out, _, _, _, rfl⟩⟩
  (repeat' (first | (with_reducible exact World.grownBy.refl _ _) | (with_reducible assumption) | (with_reducible refine grown_alloc ?_ _) | (with_reducible refine grown_drewN ?_ _) | (with_reducible refine grown_setOwn ?_ ?_ _) | omega))
set_option maxRecDepth 100000 in
set_option maxHeartbeats 4000000 in
theorem rtok_name (s : ByteArray) (i : Nat) (w : World) (hs : s.size ≤ 100000) (hi : i < s.size) (hlt : hd letB (s.data.toList.drop i) = true) (n : Nat) (hn : nmLen (s.data.toList.drop i) = n) (h24 : ¬ n > 24) (hc : colonB (s.data.toList.drop (i + n)) = false) :
    Calls Try.prog 19 #[.string s, .int .i64 i] w (RPost (tokV (s.data.toList.drop i)) w i i) := by
  have F : Hid (tokV (s.data.toList.drop i) = .ok ⟨1, (s.data.toList.drop i).take (n), 0⟩ (n)) := by
    show _ = _
    obtain ⟨c, r, hcr, hl⟩ := hd_cons hlt
    rw [← List.drop_drop] at hc
    rw [hcr] at hn hc ⊢
    rw [tok_wrd hl, wrd_nm (by rw [hn]; exact h24) (by rw [hn]; exact hc), hn]
  obtain ⟨a, ha⟩ : ∃ a, a = (1 : Int) := ⟨_, rfl⟩
  have HA : Hid (atV s i = a) := by show _ = _; rw [ha]; have := at_let s i; rw [hlt] at this; simpa using this.symm
  have a1 : (a == 1) = true := by rw [ha]; rfl
  clear ha
  have hbn := nm_bd s i (Nat.le_of_lt hi)
  rw [hn] at hbn
  have HN := Lib.hid hn
  obtain ⟨q, hq⟩ : ∃ q, q = i + n := ⟨_, rfl⟩
  have HQ := Lib.hid hq
  rw [← hq] at hbn
  have HC : Hid (colonB (s.data.toList.drop q) = false) := by show _ = _; rw [hq]; exact hc
  have t24 : decide (24 < (q : Int) - (i : Int)) = false := decide_eq_false (by omega)
  have hi' : i ≤ s.size := by omega
  have b1 : (q : Int) ≤ (s.size : Int) := by omega
  have b2 : (i : Int) ≤ (q : Int) := by omega
  have b3 : (0 : Int) ≤ (q : Int) := by omega
  have b4 : ((q : Int)).toNat = q := by omega
  have b4' : ((i : Int)).toNat = i := by omega
  have b5 : i ≤ q := by omega
  have b6 : q ≤ s.size := by omega
  have b7 : (0 : Int) ≤ (i : Int) := by omega
  have hx := ext_list s (i) (n)
  rw [show i + (n) = q by omega] at hx
  have HX := Lib.hid hx
  obtain ⟨t, ht⟩ : ∃ t, s.extract (i) (q) = t := ⟨_, rfl⟩
  have HT := Lib.hid ht
  clear hx
  clear hq hn hc hlt
  go_enter Try.func19, Try.ntmps19
  go_wp2_with (first | (go_at_call 31; (with_reducible refine (rat_any _ _ _ hs).mono ?_); rw [HA.out]; rintro e w' ⟨rfl, rfl⟩) | (go_at_call 32; (with_reducible refine (rname_any _ _ _ hs hi').mono ?_); rw [HN.out, ← HQ.out]; rintro e w' ⟨rfl, rfl⟩) | (go_at_call 33; (with_reducible refine (rcolon_any s q _ hs).mono ?_); rw [HC.out]; rintro e w' ⟨rfl, rfl⟩))
  refine bodyPost_ret (v := .tuple #[.agg #[.int .i64 1, .string t, .int .i64 0, .int .i64 i], .int .i64 ((q : Int)), .int .i64 0]) (by simp [results, Try.results19, go_sem, *]) rfl ?_
  refine ⟨?_, .inr ⟨_, _, t, F.out, by rw [← HT.out]; exact HX.out, by have := HQ.out; rw [show i + (n) = q by omega] <;> rfl⟩⟩
  (repeat' (first | (with_reducible exact World.grownBy.refl _ _) | (with_reducible assumption) | (with_reducible refine grown_alloc ?_ _) | (with_reducible refine grown_drewN ?_ _) | (with_reducible refine grown_setOwn ?_ ?_ _) | omega))
set_option maxRecDepth 100000 in
set_option maxHeartbeats 4000000 in
theorem rtok_kw (s : ByteArray) (i : Nat) (w : World) (hs : s.size ≤ 100000) (hi : i < s.size) (hlt : hd letB (s.data.toList.drop i) = true) (n : Nat) (hn : nmLen (s.data.toList.drop i) = n) (h24 : ¬ n > 24) (hc : colonB (s.data.toList.drop (i + n)) = true) :
    Calls Try.prog 19 #[.string s, .int .i64 i] w (RPost (tokV (s.data.toList.drop i)) w i i) := by
  have F : Hid (tokV (s.data.toList.drop i) = .ok ⟨2, (s.data.toList.drop i).take (n + 1), 0⟩ (n + 1)) := by
    show _ = _
    obtain ⟨c, r, hcr, hl⟩ := hd_cons hlt
    rw [← List.drop_drop] at hc
    rw [hcr] at hn hc ⊢
    rw [tok_wrd hl, wrd_kw (by rw [hn]; exact h24) (by rw [hn]; exact hc), hn]
  obtain ⟨a, ha⟩ : ∃ a, a = (1 : Int) := ⟨_, rfl⟩
  have HA : Hid (atV s i = a) := by show _ = _; rw [ha]; have := at_let s i; rw [hlt] at this; simpa using this.symm
  have a1 : (a == 1) = true := by rw [ha]; rfl
  clear ha
  have hbn := nm_bd s i (Nat.le_of_lt hi)
  rw [hn] at hbn
  have HN := Lib.hid hn
  obtain ⟨q, hq⟩ : ∃ q, q = i + n := ⟨_, rfl⟩
  have HQ := Lib.hid hq
  rw [← hq] at hbn
  have HC : Hid (colonB (s.data.toList.drop q) = true) := by show _ = _; rw [hq]; exact hc
  have hq1 : q + 1 ≤ s.size := by
    have := colonB_lt HC.out
    simp at this
    have : s.data.size = s.size := rfl
    omega
  have t24 : decide (24 < (q : Int) - (i : Int)) = false := decide_eq_false (by omega)
  have hi' : i ≤ s.size := by omega
  have b1 : (q : Int) + 1 ≤ (s.size : Int) := by omega
  have b2 : (i : Int) ≤ (q : Int) + 1 := by omega
  have b3 : (0 : Int) ≤ (q : Int) + 1 := by omega
  have b4 : ((q : Int) + 1).toNat = q + 1 := by omega
  have b4' : ((i : Int)).toNat = i := by omega
  have b5 : i ≤ q + 1 := by omega
  have b6 : q + 1 ≤ s.size := by omega
  have b7 : (0 : Int) ≤ (i : Int) := by omega
  have hx := ext_list s (i) (n + 1)
  rw [show i + (n + 1) = q + 1 by omega] at hx
  have HX := Lib.hid hx
  obtain ⟨t, ht⟩ : ∃ t, s.extract (i) (q + 1) = t := ⟨_, rfl⟩
  have HT := Lib.hid ht
  clear hx
  clear hq hn hc hlt
  go_enter Try.func19, Try.ntmps19
  go_wp2_with (first | (go_at_call 31; (with_reducible refine (rat_any _ _ _ hs).mono ?_); rw [HA.out]; rintro e w' ⟨rfl, rfl⟩) | (go_at_call 32; (with_reducible refine (rname_any _ _ _ hs hi').mono ?_); rw [HN.out, ← HQ.out]; rintro e w' ⟨rfl, rfl⟩) | (go_at_call 33; (with_reducible refine (rcolon_any s q _ hs).mono ?_); rw [HC.out]; rintro e w' ⟨rfl, rfl⟩))
  refine bodyPost_ret (v := .tuple #[.agg #[.int .i64 2, .string t, .int .i64 0, .int .i64 i], .int .i64 ((q : Int) + 1), .int .i64 0]) (by simp [results, Try.results19, go_sem, *]) rfl ?_
  refine ⟨?_, .inr ⟨_, _, t, F.out, by rw [← HT.out]; exact HX.out, by have := HQ.out; rw [show i + (n + 1) = q + 1 by omega] <;> rfl⟩⟩
  (repeat' (first | (with_reducible exact World.grownBy.refl _ _) | (with_reducible assumption) | (with_reducible refine grown_alloc ?_ _) | (with_reducible refine grown_drewN ?_ _) | (with_reducible refine grown_setOwn ?_ ?_ _) | omega))
end Go.Proofs.Ytdcibeagljeioaa

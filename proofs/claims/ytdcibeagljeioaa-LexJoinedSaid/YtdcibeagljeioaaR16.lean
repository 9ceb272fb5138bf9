/- Chapter 06: the reference's symbol: a name, keywords. -/
import Derived.Test.YtdcibeagljeioaaR10
namespace Go.Proofs.Ytdcibeagljeioaa
open Go.ChangeShapes Go.WideShapes Go.ChangeAt Go.RowKit
set_option linter.unusedVariables false
set_option linter.unusedSimpArgs false
set_option maxHeartbeats 8000000 in
theorem rsym_name (s : ByteArray) (i : Nat) (w : World) (hs : s.size ≤ 100000) (hi : i + 1 ≤ s.size) (h40 : hd (· == 40) (s.data.toList.drop (i + 1)) = false) (hsg : hd signB (s.data.toList.drop (i + 1)) = false) (hlt : hd letB (s.data.toList.drop (i + 1)) = true) (h24 : ¬ nmLen (s.data.toList.drop (i + 1)) > 24) :
    Calls Try.prog 35 #[.string s, .agg #[.int .i64 0, .string ⟨#[]⟩, .int .i64 0, .int .i64 i]] w (RPost (hashV (s.data.toList.drop (i + 1))) w i (i + 1)) := by
  have H40 := Lib.hid h40
  have HS0 := Lib.hid (symAt0 hsg hlt h24)
  rw [hd_byte (p := (· == 40)) rfl] at h40
  rw [at_sign] at hsg
  rw [at_let] at hlt
  have hlt' : i + 1 < s.size := at_lt (by simpa using hlt) (by decide)
  obtain ⟨a, ha⟩ : ∃ a, atV s (i + 1) = a := ⟨_, rfl⟩
  have HA := Lib.hid ha
  rw [ha] at hsg hlt
  have nlt : (a != 1) = false := by unfold bne; rw [hlt]; rfl
  clear ha
  have hbn := nm_bd s (i + 1) hi
  obtain ⟨n, hn⟩ : ∃ n, nmLen (s.data.toList.drop (i + 1)) = n := ⟨_, rfl⟩
  have HN := Lib.hid hn
  rw [hn] at h24 hbn
  clear hn
  obtain ⟨q0, hq0⟩ : ∃ q0, q0 = i + 1 + n := ⟨_, rfl⟩
  have HQ := Lib.hid hq0
  have t24 : decide (24 < (q0 : Int) - ((i : Int) + 1)) = false := decide_eq_false (by omega)
  rw [← hq0] at hbn
  clear hq0
  have b3 : (0 : Int) ≤ (i : Int) + 1 := by omega
  rw [byteU_lt hlt'] at h40
  have d1 : decide (i + 1 < s.size) = true := decide_eq_true hlt'
  have d1' : decide ((i : Int) + 1 < (s.size : Int)) = true := decide_eq_true (by omega)
  have b2 : (i : Int) + 1 < (s.size : Int) := by omega
  obtain ⟨x, hx⟩ : ∃ x, s[i + 1] = x := ⟨_, rfl⟩
  rw [hx] at h40
  have e40 := u8_eq x 40 (by omega)
  rw [show (x == UInt8.ofNat 40) = false from h40] at e40
  have n40 : ((x.toNat : Int) == 40) = false := e40
  clear h40 e40
  go_enter Try.func35, Try.ntmps35
  go_wp2_with (first | (go_at_call 31; (with_reducible refine (rat1 _ _ _ hs).mono ?_); rw [HA.out]; rintro e w' ⟨rfl, rfl⟩) | (go_at_call 32; (with_reducible refine (rname1 _ _ _ hs hi).mono ?_); rw [HN.out, ← HQ.out]; rintro e w' ⟨rfl, rfl⟩))
  go_loop [9] (fun x => ∃ q : Nat, i + 1 ≤ q ∧ q ≤ s.size ∧ x = .int .i64 q ∧ SymAt (s.data.toList.drop (i + 1)) (q - (i + 1))) (fun x => s.size - (intOf x).toNat)
  case atStart =>
    have hq := HQ.out
    refine ⟨q0, by omega, hbn, rfl, ?_⟩
    rw [hq, show i + 1 + n - (i + 1) = n by omega, ← HN.out]
    exact HS0.out
  case round =>
    obtain ⟨q, hqi, hqs, rfl, hAt⟩ := hrel
    have HAT := Lib.hid hAt
    clear hAt hbn t24 HQ HS0 HN
    have hdl : ∀ k, (s.data.toList.drop (i + 1)).drop (q - (i + 1) + k) = s.data.toList.drop (q + k) := fun k => by rw [List.drop_drop, show i + 1 + (q - (i + 1) + k) = q + k by omega]
    have HDL := Lib.hid hdl
    have HDL0 : Hid ((s.data.toList.drop (i + 1)).drop (q - (i + 1)) = s.data.toList.drop q) := hdl 0
    clear hdl
    cases hc : colonB (s.data.toList.drop q)
    · have HC := Lib.hid hc
      have F : Hid (hashV (s.data.toList.drop (i + 1)) = .ok ⟨6, (s.data.toList.drop (i + 1)).take (q - (i + 1)), 0⟩ (q - (i + 1))) := by show _ = _; rw [hash_sym H40.out, symAt_end HAT.out (by rw [HDL0.out]; exact HC.out)]
      have b4 : (q : Int) ≤ (s.size : Int) := by omega
      have b5 : (i : Int) + 1 ≤ (q : Int) := by omega
      have b6 : (0 : Int) ≤ (q : Int) := by omega
      have b7 : ((q : Int)).toNat = q := by omega
      have b8 : ((i : Int) + 1).toNat = i + 1 := by omega
      have b9 : i + 1 ≤ q := by omega
      have b10 : q ≤ s.size := by omega
      have hx := ext_list s (i + 1) (q - (i + 1))
      rw [show i + 1 + (q - (i + 1)) = q by omega] at hx
      have HX := Lib.hid hx
      obtain ⟨t, ht⟩ : ∃ t, s.extract (i + 1) (q) = t := ⟨_, rfl⟩
      have HT := Lib.hid ht
      clear hx hc
      go_wp2_with (first | (go_at_call 33; (with_reducible refine (rcolon_any s q _ hs).mono ?_); rw [HC.out]; rintro e w' ⟨rfl, rfl⟩))
      refine bodyPost_ret (v := .tuple #[.agg #[.int .i64 6, .string t, .int .i64 0, .int .i64 i], .int .i64 ((q : Int)), .int .i64 0]) (by simp [results, Try.results35, go_sem, *]) rfl ?_
      refine ⟨?_, .inr ⟨_, _, t, F.out, by rw [← HT.out]; exact HX.out, by rw [show i + 1 + (q - (i + 1)) = q by omega] <;> rfl⟩⟩
      (repeat' (first | (with_reducible exact World.grownBy.refl _ _) | (with_reducible assumption) | (with_reducible refine grown_alloc ?_ _) | (with_reducible refine grown_drewN ?_ _) | (with_reducible refine grown_setOwn ?_ ?_ _) | omega))
    · have HC := Lib.hid hc
      have hq1 : q + 1 ≤ s.size := by
        have := colonB_lt hc
        simp at this
        have : s.data.size = s.size := rfl
        omega
      have g0 : (0 : Int) ≤ (q : Int) + 1 := by omega
      have HAL := Lib.hid (at_let s (q + 1))
      obtain ⟨a1, ha1⟩ : ∃ a1, atV s (q + 1) = a1 := ⟨_, rfl⟩
      have HA1 := Lib.hid ha1
      clear ha1
      cases hl : a1 == 1
      · have nl : (a1 != 1) = true := by unfold bne; rw [hl]; rfl
        have HL : Hid (hd letB (s.data.toList.drop (q + 1)) = false) := by show _ = _; rw [HAL.out, HA1.out]; exact hl
        have F : Hid (hashV (s.data.toList.drop (i + 1)) = .ok ⟨6, (s.data.toList.drop (i + 1)).take (q + 1 - (i + 1)), 0⟩ (q + 1 - (i + 1))) := by show _ = _; rw [hash_sym H40.out, symAt_stop HAT.out (by rw [HDL0.out]; exact HC.out) (by rw [HDL.out, HL.out]; simp), show q - (i + 1) + 1 = q + 1 - (i + 1) by omega]
        have b4 : (q : Int) + 1 ≤ (s.size : Int) := by omega
        have b5 : (i : Int) + 1 ≤ (q : Int) + 1 := by omega
        have b6 : (0 : Int) ≤ (q : Int) + 1 := by omega
        have b7 : ((q : Int) + 1).toNat = q + 1 := by omega
        have b8 : ((i : Int) + 1).toNat = i + 1 := by omega
        have b9 : i + 1 ≤ q + 1 := by omega
        have b10 : q + 1 ≤ s.size := by omega
        have hx := ext_list s (i + 1) (q + 1 - (i + 1))
        rw [show i + 1 + (q + 1 - (i + 1)) = q + 1 by omega] at hx
        have HX := Lib.hid hx
        obtain ⟨t, ht⟩ : ∃ t, s.extract (i + 1) (q + 1) = t := ⟨_, rfl⟩
        have HT := Lib.hid ht
        clear hx hc
        go_wp2_with (first | (go_at_call 33; (with_reducible refine (rcolon_any s q _ hs).mono ?_); rw [HC.out]; rintro e w' ⟨rfl, rfl⟩) | (go_at_call 31; (with_reducible refine (rat1 s q _ hs).mono ?_); rw [HA1.out]; rintro e w' ⟨rfl, rfl⟩))
        refine bodyPost_ret (v := .tuple #[.agg #[.int .i64 6, .string t, .int .i64 0, .int .i64 i], .int .i64 ((q : Int) + 1), .int .i64 0]) (by simp [results, Try.results35, go_sem, *]) rfl ?_
        refine ⟨?_, .inr ⟨_, _, t, F.out, by rw [← HT.out]; exact HX.out, by rw [show i + 1 + (q + 1 - (i + 1)) = q + 1 by omega] <;> rfl⟩⟩
        (repeat' (first | (with_reducible exact World.grownBy.refl _ _) | (with_reducible assumption) | (with_reducible refine grown_alloc ?_ _) | (with_reducible refine grown_drewN ?_ _) | (with_reducible refine grown_setOwn ?_ ?_ _) | omega))
      · have nl : (a1 != 1) = false := by unfold bne; rw [hl]; rfl
        have HL : Hid (hd letB (s.data.toList.drop (q + 1)) = true) := by show _ = _; rw [HAL.out, HA1.out]; exact hl
        have hbm := nm_bd s (q + 1) hq1
        obtain ⟨m, hm⟩ : ∃ m, nmLen (s.data.toList.drop (q + 1)) = m := ⟨_, rfl⟩
        have HM := Lib.hid hm
        rw [hm] at hbm
        clear hm
        obtain ⟨nx, hnx⟩ : ∃ nx, nx = q + 1 + m := ⟨_, rfl⟩
        have HNX := Lib.hid hnx
        rw [← hnx] at hbm
        cases hc2 : colonB (s.data.toList.drop (q + 1 + m))
        · have HC2 : Hid (colonB (s.data.toList.drop nx) = false) := by show _ = _; rw [hnx]; exact hc2
          have HC3 := Lib.hid hc2
          clear hnx hc2
          have F : Hid (hashV (s.data.toList.drop (i + 1)) = .ok ⟨6, (s.data.toList.drop (i + 1)).take (q + 1 - (i + 1)), 0⟩ (q + 1 - (i + 1))) := by show _ = _; rw [hash_sym H40.out, symAt_stop HAT.out (by rw [HDL0.out]; exact HC.out) (by rw [Nat.add_assoc (q - (i + 1)) 1, HDL.out, HDL.out, HM.out, ← Nat.add_assoc, HC3.out]; simp), show q - (i + 1) + 1 = q + 1 - (i + 1) by omega]
          have b4 : (q : Int) + 1 ≤ (s.size : Int) := by omega
          have b5 : (i : Int) + 1 ≤ (q : Int) + 1 := by omega
          have b6 : (0 : Int) ≤ (q : Int) + 1 := by omega
          have b7 : ((q : Int) + 1).toNat = q + 1 := by omega
          have b8 : ((i : Int) + 1).toNat = i + 1 := by omega
          have b9 : i + 1 ≤ q + 1 := by omega
          have b10 : q + 1 ≤ s.size := by omega
          have hx := ext_list s (i + 1) (q + 1 - (i + 1))
          rw [show i + 1 + (q + 1 - (i + 1)) = q + 1 by omega] at hx
          have HX := Lib.hid hx
          obtain ⟨t, ht⟩ : ∃ t, s.extract (i + 1) (q + 1) = t := ⟨_, rfl⟩
          have HT := Lib.hid ht
          clear hx hc
          go_wp2_with (first | (go_at_call 33; (with_reducible refine (rcolon_any s q _ hs).mono ?_); rw [HC.out]; rintro e w' ⟨rfl, rfl⟩) | (go_at_call 31; (with_reducible refine (rat1 s q _ hs).mono ?_); rw [HA1.out]; rintro e w' ⟨rfl, rfl⟩) | (go_at_call 32; (with_reducible refine (rname1 s q _ hs hq1).mono ?_); rw [HM.out, ← HNX.out]; rintro e w' ⟨rfl, rfl⟩) | (go_at_call 33; (with_reducible refine (rcolon_any s nx _ hs).mono ?_); rw [HC2.out]; rintro e w' ⟨rfl, rfl⟩))
          refine bodyPost_ret (v := .tuple #[.agg #[.int .i64 6, .string t, .int .i64 0, .int .i64 i], .int .i64 ((q : Int) + 1), .int .i64 0]) (by simp [results, Try.results35, go_sem, *]) rfl ?_
          refine ⟨?_, .inr ⟨_, _, t, F.out, by rw [← HT.out]; exact HX.out, by rw [show i + 1 + (q + 1 - (i + 1)) = q + 1 by omega] <;> rfl⟩⟩
          (repeat' (first | (with_reducible exact World.grownBy.refl _ _) | (with_reducible assumption) | (with_reducible refine grown_alloc ?_ _) | (with_reducible refine grown_drewN ?_ _) | (with_reducible refine grown_setOwn ?_ ?_ _) | omega))
        · have HC2 : Hid (colonB (s.data.toList.drop nx) = true) := by show _ = _; rw [hnx]; exact hc2
          have HC3 := Lib.hid hc2
          by_cases h24' : m > 24
          · have F : Hid (hashV (s.data.toList.drop (i + 1)) = .err 12) := by
              show _ = _
              rw [hash_sym H40.out, symAt_long HAT.out (by rw [HDL0.out]; exact HC.out) (by rw [HDL.out]; exact HL.out) (by rw [Nat.add_assoc (q - (i + 1)) 1, HDL.out, HDL.out, HM.out, ← Nat.add_assoc]; exact HC3.out) (by rw [HDL.out, HM.out]; exact h24')]
            have t24' : decide (24 < (nx : Int) - ((q : Int) + 1)) = true := decide_eq_true (by omega)
            clear hnx hc2 hc
            go_wp2_with (first | (go_at_call 33; (with_reducible refine (rcolon_any s q _ hs).mono ?_); rw [HC.out]; rintro e w' ⟨rfl, rfl⟩) | (go_at_call 31; (with_reducible refine (rat1 s q _ hs).mono ?_); rw [HA1.out]; rintro e w' ⟨rfl, rfl⟩) | (go_at_call 32; (with_reducible refine (rname1 s q _ hs hq1).mono ?_); rw [HM.out, ← HNX.out]; rintro e w' ⟨rfl, rfl⟩) | (go_at_call 33; (with_reducible refine (rcolon_any s nx _ hs).mono ?_); rw [HC2.out]; rintro e w' ⟨rfl, rfl⟩))
            refine bodyPost_ret (v := .tuple #[.agg #[.int .i64 6, .string ⟨#[]⟩, .int .i64 0, .int .i64 i], .int .i64 0, .int .i64 12]) (by simp [results, Try.results35, go_sem, *]) rfl ?_
            refine ⟨?_, .inl ⟨_, F.out, _, _, _, rfl⟩⟩
            (repeat' (first | (with_reducible exact World.grownBy.refl _ _) | (with_reducible assumption) | (with_reducible refine grown_alloc ?_ _) | (with_reducible refine grown_drewN ?_ _) | (with_reducible refine grown_setOwn ?_ ?_ _) | omega))
          · have F : Hid (SymAt (s.data.toList.drop (i + 1)) (nx - (i + 1))) := by
              show SymAt _ _
              have := symAt_next HAT.out (by rw [HDL0.out]; exact HC.out) (by rw [HDL.out]; exact HL.out) (by rw [Nat.add_assoc (q - (i + 1)) 1, HDL.out, HDL.out, HM.out, ← Nat.add_assoc]; exact HC3.out) (by rw [HDL.out, HM.out]; exact h24')
              rw [HDL.out, HM.out, show q - (i + 1) + 1 + m = nx - (i + 1) by omega] at this
              exact this
            have t24' : decide (24 < (nx : Int) - ((q : Int) + 1)) = false := decide_eq_false (by omega)
            have hmeas : s.size - nx < s.size - q := by omega
            have hin : i + 1 ≤ nx := by omega
            clear hnx hc2 hc
            go_wp2_with (first | (go_at_call 33; (with_reducible refine (rcolon_any s q _ hs).mono ?_); rw [HC.out]; rintro e w' ⟨rfl, rfl⟩) | (go_at_call 31; (with_reducible refine (rat1 s q _ hs).mono ?_); rw [HA1.out]; rintro e w' ⟨rfl, rfl⟩) | (go_at_call 32; (with_reducible refine (rname1 s q _ hs hq1).mono ?_); rw [HM.out, ← HNX.out]; rintro e w' ⟨rfl, rfl⟩) | (go_at_call 33; (with_reducible refine (rcolon_any s nx _ hs).mono ?_); rw [HC2.out]; rintro e w' ⟨rfl, rfl⟩))
            go_round
            case rel => exact ⟨nx, hin, hbm, rfl, F.out⟩
            case measure => simp [intOf]; omega
end Go.Proofs.Ytdcibeagljeioaa

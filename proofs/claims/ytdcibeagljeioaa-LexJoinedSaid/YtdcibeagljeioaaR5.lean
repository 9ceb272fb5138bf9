/- Chapter 06: contracts of the reference: colons; blanks and remarks. -/
import Derived.Test.YtdcibeagljeioaaR4
import Derived.Test.YtdcibeagljeioaaW8
namespace Go.Proofs.Ytdcibeagljeioaa
open Go.ChangeShapes Go.WideShapes Go.ChangeAt Go.RowKit
set_option linter.unusedVariables false
set_option linter.unusedSimpArgs false
theorem byteU_lt {s : ByteArray} {i : Nat} (h : i < s.size) : byteU s i = s[i] := by unfold byteU; rw [dif_pos h]
theorem byteU_ge {s : ByteArray} {i : Nat} (h : s.size ≤ i) : byteU s i = 0 := by unfold byteU; rw [dif_neg (by omega)]
set_option maxHeartbeats 4000000 in
theorem rcolon_any (s : ByteArray) (i : Nat) (w : World) (hs : s.size ≤ 100000) : Calls Try.prog 33 #[.string s, .int .i64 i] w fun e w' => e = .returned (.bool (colonB (s.data.toList.drop i))) ∧ w' = w := by
  have E := Lib.hid (colon_eq s i)
  have b0 : (0 : Int) ≤ (i : Int) := by omega
  have b0' : (0 : Int) ≤ (i : Int) + 1 := by omega
  by_cases h0 : i < s.size
  · have d0 : decide (i < s.size) = true := decide_eq_true h0
    have b1 : (i : Int) < (s.size : Int) := by omega
    obtain ⟨x, hx⟩ : ∃ x, s[i] = x := ⟨_, rfl⟩
    have HX : Hid (byteU s i = x) := (byteU_lt h0).trans hx
    have e58 := u8_eq x 58 (by omega)
    cases q58 : x == UInt8.ofNat 58
    · rw [q58] at e58
      have n58 : ((x.toNat : Int) == 58) = false := e58
      have F : Hid (colonB (s.data.toList.drop i) = false) := by show _ = _; rw [E.out, HX.out, show (x == 58) = false from q58]; rfl
      clear e58 q58
      go_enter Try.func33, Try.ntmps33
      go_wp2
      go_ret
      exact ⟨ret_bool F.out.symm, rfl⟩
    · rw [q58] at e58
      have n58 : ((x.toNat : Int) == 58) = true := e58
      by_cases h1 : i + 1 < s.size
      · have d1 : decide (i + 1 < s.size) = true := decide_eq_true h1
        have d1' : decide ((i : Int) + 1 < (s.size : Int)) = true := decide_eq_true (by omega)
        have b2 : (i : Int) + 1 < (s.size : Int) := by omega
        obtain ⟨y, hy⟩ : ∃ y, s[i + 1] = y := ⟨_, rfl⟩
        have HY : Hid (byteU s (i + 1) = y) := (byteU_lt h1).trans hy
        have e61 := u8_eq y 61 (by omega)
        cases q61 : y == UInt8.ofNat 61
        · rw [q61] at e61
          have n61 : ((y.toNat : Int) == 61) = false := e61
          have F : Hid (colonB (s.data.toList.drop i) = true) := by show _ = _; rw [E.out, HX.out, HY.out, show (x == 58) = true from q58, show (y == 61) = false from q61]; rfl
          clear e58 q58 e61 q61
          go_enter Try.func33, Try.ntmps33
          go_wp2
          go_ret
          exact ⟨ret_bool F.out.symm, rfl⟩
        · rw [q61] at e61
          have n61 : ((y.toNat : Int) == 61) = true := e61
          have F : Hid (colonB (s.data.toList.drop i) = false) := by show _ = _; rw [E.out, HX.out, HY.out, show (x == 58) = true from q58, show (y == 61) = true from q61]; rfl
          clear e58 q58 e61 q61
          go_enter Try.func33, Try.ntmps33
          go_wp2
          go_ret
          exact ⟨ret_bool F.out.symm, rfl⟩
      · have d1 : decide (i + 1 < s.size) = false := decide_eq_false h1
        have d1' : decide ((i : Int) + 1 < (s.size : Int)) = false := decide_eq_false (by omega)
        have F : Hid (colonB (s.data.toList.drop i) = true) := by show _ = _; rw [E.out, HX.out, byteU_ge (by omega), show (x == 58) = true from q58]; rfl
        clear e58 q58
        go_enter Try.func33, Try.ntmps33
        go_wp2
        go_ret
        exact ⟨ret_bool F.out.symm, rfl⟩
  · have d0 : decide (i < s.size) = false := decide_eq_false h0
    have d0' : decide ((i : Int) < (s.size : Int)) = false := decide_eq_false (by omega)
    have F : Hid (colonB (s.data.toList.drop i) = false) := by show _ = _; rw [E.out, byteU_ge (by omega)]; rfl
    go_enter Try.func33, Try.ntmps33
    go_wp2
    go_ret
    exact ⟨ret_bool F.out.symm, rfl⟩
theorem ret_ib {a b : Int} {p q : Bool} (h : a = b) (h' : p = q) : Ending.returned (.tuple #[.int .i64 a, .bool p]) = .returned (.tuple #[.int .i64 b, .bool q]) := by rw [h, h']
theorem kind_blank (c : UInt8) : (kindV c == 5) = blankB c := by
  unfold kindV
  cases hl : letB c
  · cases hd : digB c
    · cases hb : blankB c
      · cases signB c
        · cases markB c <;> rfl
        · rfl
      · rfl
    · cases hb : blankB c
      · rfl
      · simp [blankB] at hb
        rcases hb with ((rfl | rfl) | rfl) | rfl <;> revert hd <;> decide
  · cases hb : blankB c
    · rfl
    · simp [blankB] at hb
      rcases hb with ((rfl | rfl) | rfl) | rfl <;> revert hl <;> decide
set_option maxHeartbeats 8000000 in
theorem rskip_any (s : ByteArray) (i : Nat) (w : World) (hs : s.size ≤ 100000) (hi : i ≤ s.size) :
    Calls Try.prog 14 #[.string s, .int .i64 i] w fun e w' => e = .returned (.tuple #[.int .i64 ((i + (skipV (s.data.toList.drop i)).1 : Nat) : Int), .bool (skipV (s.data.toList.drop i)).2]) ∧ w' = w := by
  obtain ⟨⟨n, op⟩, hn⟩ : ∃ z, skipV (s.data.toList.drop i) = z := ⟨_, rfl⟩
  rw [hn]
  have HN := Lib.hid hn
  clear hn
  go_enter Try.func14, Try.ntmps14
  go_wp2
  go_loop [1] (fun x => ∃ j : Nat, j ≤ s.size ∧ i ≤ j ∧ x = .int .i64 j ∧ (n, op) = ((skipV (s.data.toList.drop j)).1 + (j - i), (skipV (s.data.toList.drop j)).2)) (fun x => s.size - (intOf x).toNat)
  case atStart => exact ⟨i, hi, Nat.le_refl _, rfl, by rw [HN.out]; simp⟩
  case round =>
    obtain ⟨j, hj, hij, rfl, hrel⟩ := hrel
    have HR := Lib.hid hrel
    clear hrel
    by_cases h0 : j < s.size
    · have d0 : decide (j < s.size) = true := decide_eq_true h0
      have b0 : (0 : Int) ≤ (j : Int) := by omega
      have b1 : (j : Int) < (s.size : Int) := by omega
      have hcons := byte_cons h0
      rw [byteU_lt h0] at hcons
      obtain ⟨x, hx⟩ : ∃ x, s[j] = x := ⟨_, rfl⟩
      rw [hx] at hcons
      have HC := Lib.hid hcons
      have HS := Lib.hid (skip_cons x (s.data.toList.drop (j + 1)))
      have kb := kind_blank x
      clear hcons
      cases hb : blankB x
      · rw [hb] at kb
        have e34 := u8_ne x 34 (by omega)
        cases q34 : x == UInt8.ofNat 34
        · rw [q34] at e34
          have n34 : ((x.toNat : Int) != 34) = true := e34
          have F : Hid (skipV (s.data.toList.drop j) = (0, false)) := by show _ = _; rw [HC.out, HS.out, if_neg (by simp [hb]), if_neg (by rw [show (x == 34) = false from q34]; simp)]
          clear e34 q34 hb
          go_wp2_with (go_at_call 20; (with_reducible refine (kind_any _ _).mono ?_); rintro e w' ⟨rfl, rfl⟩)
          go_ret2
          have h2 := HR.out
          rw [F.out] at h2
          obtain ⟨h3, h4⟩ := Prod.mk.inj h2
          simp only at h3 h4
          subst h4
          exact ⟨ret_ib (by show (j : Int) = _; omega) rfl, rfl⟩
        · rw [q34] at e34
          have n34 : ((x.toNat : Int) != 34) = false := e34
          have hx34 : x = 34 := by simpa using q34
          have F : Hid (∀ k, remV (s.data.toList.drop (j + 1)) = some k → skipV (s.data.toList.drop j) = ((skipV (s.data.toList.drop (j + 1 + (k + 1)))).1 + (k + 2), (skipV (s.data.toList.drop (j + 1 + (k + 1)))).2)) := fun k hk => by
            rw [HC.out, HS.out, if_neg (by simp [hb]), if_pos (by rw [hx34]; rfl), hk]
            simp only [List.drop_drop]
          have F0 : Hid (remV (s.data.toList.drop (j + 1)) = none → skipV (s.data.toList.drop j) = (0, true)) := fun hk => by
            rw [HC.out, HS.out, if_neg (by simp [hb]), if_pos (by rw [hx34]; rfl), hk]
          clear e34 q34 hb hx34
          go_wp2_with (go_at_call 20; (with_reducible refine (kind_any _ _).mono ?_); rintro e w' ⟨rfl, rfl⟩)
          go_loop [6] (fun x => ∃ e : Nat, j + 1 ≤ e ∧ e ≤ s.size ∧ x = .int .i64 e ∧ remV (s.data.toList.drop (j + 1)) = (remV (s.data.toList.drop e)).map (· + (e - (j + 1)))) (fun x => s.size - (intOf x).toNat)
          case atStart => exact ⟨j + 1, Nat.le_refl _, by omega, by go_num, by cases remV (s.data.toList.drop (j + 1)) <;> simp⟩
          case round =>
            obtain ⟨e, he1, he2, rfl, hre⟩ := hrel
            have HRE := Lib.hid hre
            clear hre
            have g0 : (0 : Int) ≤ (e : Int) := by omega
            by_cases h1 : e < s.size
            · have d1 : decide (e < s.size) = true := decide_eq_true h1
              have g1 : (e : Int) < (s.size : Int) := by omega
              have hcons := byte_cons h1
              rw [byteU_lt h1] at hcons
              obtain ⟨y, hy⟩ : ∃ y, s[e] = y := ⟨_, rfl⟩
              rw [hy] at hcons
              have HCE := Lib.hid hcons
              clear hcons
              have z34 := u8_ne y 34 (by omega)
              have ne1 : ((e : Int) == (s.size : Int)) = false := by simp; omega
              have ne2 : (e == s.size) = false := by simp; omega
              cases q35 : y == UInt8.ofNat 34
              · rw [q35] at z34
                have m34 : ((y.toNat : Int) != 34) = true := z34
                have hrem : Hid (remV (s.data.toList.drop e) = (remV (s.data.toList.drop (e + 1))).map (· + 1)) := by show _ = _; rw [HCE.out, remV, if_neg (by rw [show (y == 34) = false from q35]; simp)]
                clear z34 q35
                go_wp2
                go_round
                case rel =>
                  refine ⟨e + 1, by omega, by omega, by go_num, ?_⟩
                  rw [HRE.out, hrem.out]
                  cases remV (s.data.toList.drop (e + 1)) with
                  | none => rfl
                  | some k => simp; omega
                case measure => simp [intOf]; omega
              · rw [q35] at z34
                have m34 : ((y.toNat : Int) != 34) = false := z34
                have hrem : Hid (remV (s.data.toList.drop (j + 1)) = some (e - (j + 1))) := by show _ = _; rw [HRE.out, HCE.out, remV, if_pos (by simpa using q35)]; simp
                clear z34 q35
                go_wp2
                go_round
                case rel =>
                  refine ⟨e + 1, by omega, by omega, by go_num, ?_⟩
                  rw [HR.out, F.out _ hrem.out, show j + 1 + (e - (j + 1) + 1) = e + 1 by omega]
                  simp only [Prod.mk.injEq, and_true]; omega
                case measure => simp [intOf]; omega
            · have d1 : decide (e < s.size) = false := decide_eq_false h1
              have d1' : decide ((e : Int) < (s.size : Int)) = false := decide_eq_false (by omega)
              have ne1 : ((e : Int) == (s.size : Int)) = true := by simp; omega
              have ne2 : (e == s.size) = true := by simp; omega
              have hrem : Hid (remV (s.data.toList.drop (j + 1)) = none) := by show _ = _; rw [HRE.out, List.drop_eq_nil_of_le (by simpa using h1)]; rfl
              go_wp2
              go_ret2
              have h2 := HR.out
              rw [F0.out hrem.out] at h2
              obtain ⟨h3, h4⟩ := Prod.mk.inj h2
              simp only at h3 h4
              subst h4
              exact ⟨ret_ib (by show (j : Int) = _; omega) rfl, rfl⟩
      · rw [hb] at kb
        have F : Hid (skipV (s.data.toList.drop j) = ((skipV (s.data.toList.drop (j + 1))).1 + 1, (skipV (s.data.toList.drop (j + 1))).2)) := by show _ = _; rw [HC.out, HS.out, if_pos hb]
        clear hb
        go_wp2_with (go_at_call 20; (with_reducible refine (kind_any _ _).mono ?_); rintro e w' ⟨rfl, rfl⟩)
        go_round
        case rel => exact ⟨j + 1, by omega, by omega, by go_num, by rw [HR.out, F.out]; simp; omega⟩
        case measure => simp [intOf]; omega
    · have d0 : decide (j < s.size) = false := decide_eq_false h0
      have d0' : decide ((j : Int) < (s.size : Int)) = false := decide_eq_false (by omega)
      have F : Hid (skipV (s.data.toList.drop j) = (0, false)) := by show _ = _; rw [List.drop_eq_nil_of_le (by simpa using h0)]; rfl
      go_wp2
      go_ret2
      have h2 := HR.out
      rw [F.out] at h2
      obtain ⟨h3, h4⟩ := Prod.mk.inj h2
      simp only at h3 h4
      subst h4
      exact ⟨ret_ib (by show (j : Int) = _; omega) rfl, rfl⟩
end Go.Proofs.Ytdcibeagljeioaa

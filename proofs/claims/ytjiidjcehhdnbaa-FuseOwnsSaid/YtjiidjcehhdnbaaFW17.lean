/- Chapter 18: what the reference's primitive comes to. -/
import Derived.Test.YtjiidjcehhdnbaaFW8
namespace Go.Proofs.Ytjiidjcehhdnbaa
open Go.ChangeShapes Go.WideShapes Go.ChangeAt Go.RowKit Go.Deep Go.Joins
set_option linter.unusedVariables false
set_option linter.unusedSimpArgs false
def resV (u : ByteArray) (x y : Int) : Int × Bool :=
  bif u.toList == [43] then smallV (x + y) else bif u.toList == [45] then smallV (x - y) else bif u.toList == [42] then smallV (x * y)
  else (bif (bif u.toList == [60] then decide (x < y) else (u.toList == [61] && x == y)) then 2 else 4, true)
set_option maxHeartbeats 4000000 in
theorem result_any (u : ByteArray) (x y : Int) (h1 : -1073741824 ≤ x) (h2 : x ≤ 1073741823) (k1 : -1073741824 ≤ y) (k2 : y ≤ 1073741823) (w : World) :
    Calls Try.prog 34 #[.string u, .int .i64 x, .int .i64 y] w fun e w' => e = .returned (.tuple #[.int .i64 (resV u x y).1, .bool (resV u x y).2]) ∧ w' = w := by
  obtain ⟨m1, m2⟩ := mul_bd30 x y h1 h2 k1 k2
  cases u43 : u.toList == [43]
  · cases u45 : u.toList == [45]
    · cases u42 : u.toList == [42]
      · cases u60 : u.toList == [60]
        · cases u61 : u.toList == [61]
          · have R : Hid (resV u x y = (4, true)) := by show resV u x y = _; simp [resV, u43, u45, u42, u60, u61]
            go_enter Try.func34, Try.ntmps34
            go_wp2
            exact bodyPost_ret (v := .tuple #[.int .i64 4, .bool true]) (by simp [results, Try.results34, go_sem]) rfl ⟨by rw [R.out], rfl⟩
          · cases q : x == y
            · have R : Hid (resV u x y = (4, true)) := by show resV u x y = _; simp [resV, u43, u45, u42, u60, u61, q]
              go_enter Try.func34, Try.ntmps34
              go_wp2
              exact bodyPost_ret (v := .tuple #[.int .i64 4, .bool true]) (by simp [results, Try.results34, go_sem]) rfl ⟨by rw [R.out], rfl⟩
            · have R : Hid (resV u x y = (2, true)) := by show resV u x y = _; simp [resV, u43, u45, u42, u60, u61, q]
              go_enter Try.func34, Try.ntmps34
              go_wp2
              exact bodyPost_ret (v := .tuple #[.int .i64 2, .bool true]) (by simp [results, Try.results34, go_sem]) rfl ⟨by rw [R.out], rfl⟩
        · cases q : decide (x < y)
          · have u61 : (u.toList == [61]) = false := by
              have : u.toList = [60] := by simpa using u60
              rw [this]; rfl
            have R : Hid (resV u x y = (4, true)) := by show resV u x y = _; simp only [resV, u43, u45, u42, u60, q, cond_true, cond_false]
            go_enter Try.func34, Try.ntmps34
            go_wp2
            exact bodyPost_ret (v := .tuple #[.int .i64 4, .bool true]) (by simp [results, Try.results34, go_sem]) rfl ⟨by rw [R.out], rfl⟩
          · have R : Hid (resV u x y = (2, true)) := by show resV u x y = _; simp only [resV, u43, u45, u42, u60, q, cond_true, cond_false]
            go_enter Try.func34, Try.ntmps34
            go_wp2
            exact bodyPost_ret (v := .tuple #[.int .i64 2, .bool true]) (by simp [results, Try.results34, go_sem]) rfl ⟨by rw [R.out], rfl⟩
      · have b1 : -1152921504606846976 ≤ x * y := m1
        have b2 : x * y ≤ 1152921504606846976 := m2
        have E : Hid (mulV x y = (x * y, 0)) := by show mulV x y = _; simp [mulV, num_mk (n := x) (by omega) (by omega), num_mk (n := y) (by omega) (by omega), told, num_mk (n := x * y) b1 b2]
        obtain ⟨⟨r, k⟩, hr⟩ : ∃ t, smallV (x * y) = t := ⟨_, rfl⟩
        have F := Lib.hid hr
        have R : Hid (resV u x y = (r, k)) := by show resV u x y = _; simp [resV, u43, u45, u42, hr]
        clear hr
        go_enter Try.func34, Try.ntmps34
        go_wp2_with (first | (go_at_call 43; (with_reducible refine (rmul_any _ _ _).mono ?_); rw [show mulV x y = (x * y, 0) from E.out]; rintro e w' ⟨rfl, rfl⟩) | (go_at_call 37; (with_reducible refine (rsmall_any _ _).mono ?_); rw [F.out]; rintro e w' ⟨rfl, rfl⟩))
        exact bodyPost_ret (v := .tuple #[.int .i64 r, .bool k]) (by simp [results, Try.results34, go_sem]) rfl ⟨by rw [R.out], rfl⟩

    · have b1 : -1152921504606846976 ≤ x - y := by omega
      have b2 : x - y ≤ 1152921504606846976 := by omega
      have E : Hid (subV x y = (x - y, 0)) := by show subV x y = _; simp [subV, num_mk (n := x) (by omega) (by omega), num_mk (n := y) (by omega) (by omega), told, num_mk (n := x - y) b1 b2]
      obtain ⟨⟨r, k⟩, hr⟩ : ∃ t, smallV (x - y) = t := ⟨_, rfl⟩
      have F := Lib.hid hr
      have R : Hid (resV u x y = (r, k)) := by show resV u x y = _; simp [resV, u43, u45, hr]
      clear hr
      go_enter Try.func34, Try.ntmps34
      go_wp2_with (first | (go_at_call 42; (with_reducible refine (rsub_any _ _ _).mono ?_); rw [show subV x y = (x - y, 0) from E.out]; rintro e w' ⟨rfl, rfl⟩) | (go_at_call 37; (with_reducible refine (rsmall_any _ _).mono ?_); rw [F.out]; rintro e w' ⟨rfl, rfl⟩))
      exact bodyPost_ret (v := .tuple #[.int .i64 r, .bool k]) (by simp [results, Try.results34, go_sem]) rfl ⟨by rw [R.out], rfl⟩

  · have b1 : -1152921504606846976 ≤ x + y := by omega
    have b2 : x + y ≤ 1152921504606846976 := by omega
    have E : Hid (addV x y = (x + y, 0)) := by show addV x y = _; simp [addV, num_mk (n := x) (by omega) (by omega), num_mk (n := y) (by omega) (by omega), told, num_mk (n := x + y) b1 b2]
    obtain ⟨⟨r, k⟩, hr⟩ : ∃ t, smallV (x + y) = t := ⟨_, rfl⟩
    have F := Lib.hid hr
    have R : Hid (resV u x y = (r, k)) := by show resV u x y = _; simp [resV, u43, hr]
    clear hr
    go_enter Try.func34, Try.ntmps34
    go_wp2_with (first | (go_at_call 41; (with_reducible refine (radd_any _ _ _).mono ?_); rw [show addV x y = (x + y, 0) from E.out]; rintro e w' ⟨rfl, rfl⟩) | (go_at_call 37; (with_reducible refine (rsmall_any _ _).mono ?_); rw [F.out]; rintro e w' ⟨rfl, rfl⟩))
    exact bodyPost_ret (v := .tuple #[.int .i64 r, .bool k]) (by simp [results, Try.results34, go_sem]) rfl ⟨by rw [R.out], rfl⟩

end Go.Proofs.Ytjiidjcehhdnbaa

/- WordApart: plain facts on words, and the walk of the law. -/
import Derived.Test.YtnkfiebigfhilaaWalks3
namespace Go.Proofs.Ytnkfiebigfhilaa
open Go.ChangeShapes Go.WideShapes Go.ChangeAt Go.RowKit Go.Lib

/-- what the law meets of the word: is it small, is it a pointer, is it a constant -/
def WCase (v : Int) (s p : Bool) : Prop :=
  isSmallV v = s ∧ isPointerV v = p ∧ (s = true → smallV (valueV v) = (v, true)) ∧ ((s || p) = true → (v == 0) = false ∧ (v == 2) = false ∧ (v == 4) = false)

theorem wcase (v : Int) : ∃ s p, WCase v s p ∧ (s && p) = false := by
  refine ⟨isSmallV v, isPointerV v, ⟨rfl, rfl, fun h => ?_, fun h => ?_⟩, ?_⟩
  · have h' := of_decide_eq_true h
    simp only [valueV, h, if_true, smallV]
    rw [if_pos (by omega)]
    rw [Prod.mk.injEq]
    exact ⟨by omega, rfl⟩
  · have : ¬ v = 0 ∧ ¬ v = 2 ∧ ¬ v = 4 := by
      rcases Bool.or_eq_true _ _ ▸ h with h | h
      · have h' := of_decide_eq_true h; omega
      · have h' := of_decide_eq_true h; omega
    simpa using this
  · unfold isSmallV isPointerV
    rw [← Bool.decide_and, decide_eq_false_iff_not]; omega

theorem small_facts (n : Int) (h : -1073741824 ≤ n ∧ n ≤ 1073741823) : smallV n = (2 * n + 1, true) ∧ valueV (2 * n + 1) = n ∧ isSmallV (2 * n + 1) = true := by
  have i : isSmallV (2 * n + 1) = true := decide_eq_true (by omega)
  exact ⟨if_pos h, by simp only [valueV, i, if_true]; omega, i⟩
theorem pointer_facts (n : Int) (h : 3 ≤ n ∧ n ≤ 131072) : pointerV n = (2 * n, true) ∧ addressV (2 * n) = n ∧ isPointerV (2 * n) = true := by
  have i : isPointerV (2 * n) = true := decide_eq_true (by omega)
  exact ⟨if_pos h, by simp only [addressV, i, if_true]; omega, i⟩

set_option maxHeartbeats 4000000 in
theorem apart_a1 (n m v : Int) (w : World) (hn : ¬ (-1073741824 ≤ n ∧ n ≤ 1073741823)) (hp : ¬ (3 ≤ n ∧ n ≤ 131072)) (hm : -1073741824 ≤ m ∧ m ≤ 1073741823) :
    Calls Try.prog 9 #[.int .i64 n, .int .i64 m, .int .i64 v] w fun e w' => e = .returned (.bool true) ∧ Grown w w' := by
  have Pn : Hid (pointerV n = (0, false)) := if_neg hp
  have An : Hid (n = n) := rfl
  have Jn : Hid (n = n) := rfl
  clear hp
  have Sn : Hid (smallV n = (0, false)) := if_neg hn
  have Vn : Hid (n = n) := rfl
  have In : Hid (n = n) := rfl
  clear hn
  have Sm := Lib.hid (small_facts m hm).1
  clear hm
  obtain ⟨s, p, ⟨Iw0, Jw0, Sw0, K0⟩, hsp⟩ := wcase v
  have Iw := Lib.hid Iw0; have Jw := Lib.hid Jw0; have Sw1 := Lib.hid Sw0; have K1 := Lib.hid K0
  clear Iw0 Jw0 Sw0 K0
  cases s <;> cases p <;> (try (exact absurd hsp (by decide)))
  · clear hsp
    have Sw := Sw1
    by_cases z0 : v = 0
    · subst z0
      go_enter Try.func9, Try.ntmps9
      go_wp2_with (first | (go_at_call 21; (with_reducible refine (small_any _ _).mono ?_); (first | rw [Sn.out] | rw [Sm.out] | rw [Sw.out]); rintro e w' ⟨rfl, rfl⟩) | (go_at_call 27; (with_reducible refine (value_any _ _).mono ?_); (try rw [Vn.out]); rintro e w' ⟨rfl, rfl⟩) | (go_at_call 25; (with_reducible refine (isSmall_any _ _).mono ?_); (first | rw [In.out] | rw [Iw.out]); rintro e w' ⟨rfl, rfl⟩) | (go_at_call 23; (with_reducible refine (pointer_any _ _).mono ?_); rw [Pn.out]; rintro e w' ⟨rfl, rfl⟩) | (go_at_call 31; (with_reducible refine (address_any _ _).mono ?_); rw [An.out]; rintro e w' ⟨rfl, rfl⟩) | (go_at_call 29; (with_reducible refine (isPointer_any _ _).mono ?_); (first | rw [Jn.out] | rw [Jw.out]); rintro e w' ⟨rfl, rfl⟩) | (go_at_call 14; (with_reducible refine (lives_any _).mono ?_); rintro e w' ⟨rfl, hg⟩))
      go_ret
      exact ⟨rfl, by repeat (first | (with_reducible exact Grown.refl _) | (with_reducible assumption) | (with_reducible refine Grown.drewN ?_ _) | (with_reducible refine Grown.trans ?_ (by with_reducible assumption)))⟩
    · by_cases z2 : v = 2
      · subst z2
        go_enter Try.func9, Try.ntmps9
        go_wp2_with (first | (go_at_call 21; (with_reducible refine (small_any _ _).mono ?_); (first | rw [Sn.out] | rw [Sm.out] | rw [Sw.out]); rintro e w' ⟨rfl, rfl⟩) | (go_at_call 27; (with_reducible refine (value_any _ _).mono ?_); (try rw [Vn.out]); rintro e w' ⟨rfl, rfl⟩) | (go_at_call 25; (with_reducible refine (isSmall_any _ _).mono ?_); (first | rw [In.out] | rw [Iw.out]); rintro e w' ⟨rfl, rfl⟩) | (go_at_call 23; (with_reducible refine (pointer_any _ _).mono ?_); rw [Pn.out]; rintro e w' ⟨rfl, rfl⟩) | (go_at_call 31; (with_reducible refine (address_any _ _).mono ?_); rw [An.out]; rintro e w' ⟨rfl, rfl⟩) | (go_at_call 29; (with_reducible refine (isPointer_any _ _).mono ?_); (first | rw [Jn.out] | rw [Jw.out]); rintro e w' ⟨rfl, rfl⟩) | (go_at_call 14; (with_reducible refine (lives_any _).mono ?_); rintro e w' ⟨rfl, hg⟩))
        go_ret
        exact ⟨rfl, by repeat (first | (with_reducible exact Grown.refl _) | (with_reducible assumption) | (with_reducible refine Grown.drewN ?_ _) | (with_reducible refine Grown.trans ?_ (by with_reducible assumption)))⟩
      · by_cases z4 : v = 4
        · subst z4
          go_enter Try.func9, Try.ntmps9
          go_wp2_with (first | (go_at_call 21; (with_reducible refine (small_any _ _).mono ?_); (first | rw [Sn.out] | rw [Sm.out] | rw [Sw.out]); rintro e w' ⟨rfl, rfl⟩) | (go_at_call 27; (with_reducible refine (value_any _ _).mono ?_); (try rw [Vn.out]); rintro e w' ⟨rfl, rfl⟩) | (go_at_call 25; (with_reducible refine (isSmall_any _ _).mono ?_); (first | rw [In.out] | rw [Iw.out]); rintro e w' ⟨rfl, rfl⟩) | (go_at_call 23; (with_reducible refine (pointer_any _ _).mono ?_); rw [Pn.out]; rintro e w' ⟨rfl, rfl⟩) | (go_at_call 31; (with_reducible refine (address_any _ _).mono ?_); rw [An.out]; rintro e w' ⟨rfl, rfl⟩) | (go_at_call 29; (with_reducible refine (isPointer_any _ _).mono ?_); (first | rw [Jn.out] | rw [Jw.out]); rintro e w' ⟨rfl, rfl⟩) | (go_at_call 14; (with_reducible refine (lives_any _).mono ?_); rintro e w' ⟨rfl, hg⟩))
          go_ret
          exact ⟨rfl, by repeat (first | (with_reducible exact Grown.refl _) | (with_reducible assumption) | (with_reducible refine Grown.drewN ?_ _) | (with_reducible refine Grown.trans ?_ (by with_reducible assumption)))⟩
        · have y0 : (v == 0) = false := by simpa using z0
          have y2 : (v == 2) = false := by simpa using z2
          have y4 : (v == 4) = false := by simpa using z4
          clear z0 z2 z4
          go_enter Try.func9, Try.ntmps9
          go_wp2_with (first | (go_at_call 21; (with_reducible refine (small_any _ _).mono ?_); (first | rw [Sn.out] | rw [Sm.out] | rw [Sw.out]); rintro e w' ⟨rfl, rfl⟩) | (go_at_call 27; (with_reducible refine (value_any _ _).mono ?_); (try rw [Vn.out]); rintro e w' ⟨rfl, rfl⟩) | (go_at_call 25; (with_reducible refine (isSmall_any _ _).mono ?_); (first | rw [In.out] | rw [Iw.out]); rintro e w' ⟨rfl, rfl⟩) | (go_at_call 23; (with_reducible refine (pointer_any _ _).mono ?_); rw [Pn.out]; rintro e w' ⟨rfl, rfl⟩) | (go_at_call 31; (with_reducible refine (address_any _ _).mono ?_); rw [An.out]; rintro e w' ⟨rfl, rfl⟩) | (go_at_call 29; (with_reducible refine (isPointer_any _ _).mono ?_); (first | rw [Jn.out] | rw [Jw.out]); rintro e w' ⟨rfl, rfl⟩) | (go_at_call 14; (with_reducible refine (lives_any _).mono ?_); rintro e w' ⟨rfl, hg⟩))
          go_ret
          exact ⟨rfl, by repeat (first | (with_reducible exact Grown.refl _) | (with_reducible assumption) | (with_reducible refine Grown.drewN ?_ _) | (with_reducible refine Grown.trans ?_ (by with_reducible assumption)))⟩
  · clear hsp
    obtain ⟨y0, y2, y4⟩ := K1.out rfl
    have Sw := Sw1
    go_enter Try.func9, Try.ntmps9
    go_wp2_with (first | (go_at_call 21; (with_reducible refine (small_any _ _).mono ?_); (first | rw [Sn.out] | rw [Sm.out] | rw [Sw.out]); rintro e w' ⟨rfl, rfl⟩) | (go_at_call 27; (with_reducible refine (value_any _ _).mono ?_); (try rw [Vn.out]); rintro e w' ⟨rfl, rfl⟩) | (go_at_call 25; (with_reducible refine (isSmall_any _ _).mono ?_); (first | rw [In.out] | rw [Iw.out]); rintro e w' ⟨rfl, rfl⟩) | (go_at_call 23; (with_reducible refine (pointer_any _ _).mono ?_); rw [Pn.out]; rintro e w' ⟨rfl, rfl⟩) | (go_at_call 31; (with_reducible refine (address_any _ _).mono ?_); rw [An.out]; rintro e w' ⟨rfl, rfl⟩) | (go_at_call 29; (with_reducible refine (isPointer_any _ _).mono ?_); (first | rw [Jn.out] | rw [Jw.out]); rintro e w' ⟨rfl, rfl⟩) | (go_at_call 14; (with_reducible refine (lives_any _).mono ?_); rintro e w' ⟨rfl, hg⟩))
    go_ret
    exact ⟨rfl, by repeat (first | (with_reducible exact Grown.refl _) | (with_reducible assumption) | (with_reducible refine Grown.drewN ?_ _) | (with_reducible refine Grown.trans ?_ (by with_reducible assumption)))⟩
  · clear hsp
    obtain ⟨y0, y2, y4⟩ := K1.out rfl
    have Sw := Lib.hid (Sw1.out rfl)
    go_enter Try.func9, Try.ntmps9
    go_wp2_with (first | (go_at_call 21; (with_reducible refine (small_any _ _).mono ?_); (first | rw [Sn.out] | rw [Sm.out] | rw [Sw.out]); rintro e w' ⟨rfl, rfl⟩) | (go_at_call 27; (with_reducible refine (value_any _ _).mono ?_); (try rw [Vn.out]); rintro e w' ⟨rfl, rfl⟩) | (go_at_call 25; (with_reducible refine (isSmall_any _ _).mono ?_); (first | rw [In.out] | rw [Iw.out]); rintro e w' ⟨rfl, rfl⟩) | (go_at_call 23; (with_reducible refine (pointer_any _ _).mono ?_); rw [Pn.out]; rintro e w' ⟨rfl, rfl⟩) | (go_at_call 31; (with_reducible refine (address_any _ _).mono ?_); rw [An.out]; rintro e w' ⟨rfl, rfl⟩) | (go_at_call 29; (with_reducible refine (isPointer_any _ _).mono ?_); (first | rw [Jn.out] | rw [Jw.out]); rintro e w' ⟨rfl, rfl⟩) | (go_at_call 14; (with_reducible refine (lives_any _).mono ?_); rintro e w' ⟨rfl, hg⟩))
    go_ret
    exact ⟨rfl, by repeat (first | (with_reducible exact Grown.refl _) | (with_reducible assumption) | (with_reducible refine Grown.drewN ?_ _) | (with_reducible refine Grown.trans ?_ (by with_reducible assumption)))⟩

set_option maxHeartbeats 4000000 in
theorem apart_a2 (n m v : Int) (w : World) (hn : ¬ (-1073741824 ≤ n ∧ n ≤ 1073741823)) (hp : ¬ (3 ≤ n ∧ n ≤ 131072)) (hm : ¬ (-1073741824 ≤ m ∧ m ≤ 1073741823)) :
    Calls Try.prog 9 #[.int .i64 n, .int .i64 m, .int .i64 v] w fun e w' => e = .returned (.bool true) ∧ Grown w w' := by
  have Pn : Hid (pointerV n = (0, false)) := if_neg hp
  have An : Hid (n = n) := rfl
  have Jn : Hid (n = n) := rfl
  clear hp
  have Sn : Hid (smallV n = (0, false)) := if_neg hn
  have Vn : Hid (n = n) := rfl
  have In : Hid (n = n) := rfl
  clear hn
  have Sm : Hid (smallV m = (0, false)) := if_neg hm
  clear hm
  obtain ⟨s, p, ⟨Iw0, Jw0, Sw0, K0⟩, hsp⟩ := wcase v
  have Iw := Lib.hid Iw0; have Jw := Lib.hid Jw0; have Sw1 := Lib.hid Sw0; have K1 := Lib.hid K0
  clear Iw0 Jw0 Sw0 K0
  cases s <;> cases p <;> (try (exact absurd hsp (by decide)))
  · clear hsp
    have Sw := Sw1
    by_cases z0 : v = 0
    · subst z0
      go_enter Try.func9, Try.ntmps9
      go_wp2_with (first | (go_at_call 21; (with_reducible refine (small_any _ _).mono ?_); (first | rw [Sn.out] | rw [Sm.out] | rw [Sw.out]); rintro e w' ⟨rfl, rfl⟩) | (go_at_call 27; (with_reducible refine (value_any _ _).mono ?_); (try rw [Vn.out]); rintro e w' ⟨rfl, rfl⟩) | (go_at_call 25; (with_reducible refine (isSmall_any _ _).mono ?_); (first | rw [In.out] | rw [Iw.out]); rintro e w' ⟨rfl, rfl⟩) | (go_at_call 23; (with_reducible refine (pointer_any _ _).mono ?_); rw [Pn.out]; rintro e w' ⟨rfl, rfl⟩) | (go_at_call 31; (with_reducible refine (address_any _ _).mono ?_); rw [An.out]; rintro e w' ⟨rfl, rfl⟩) | (go_at_call 29; (with_reducible refine (isPointer_any _ _).mono ?_); (first | rw [Jn.out] | rw [Jw.out]); rintro e w' ⟨rfl, rfl⟩) | (go_at_call 14; (with_reducible refine (lives_any _).mono ?_); rintro e w' ⟨rfl, hg⟩))
      go_ret
      exact ⟨rfl, by repeat (first | (with_reducible exact Grown.refl _) | (with_reducible assumption) | (with_reducible refine Grown.drewN ?_ _) | (with_reducible refine Grown.trans ?_ (by with_reducible assumption)))⟩
    · by_cases z2 : v = 2
      · subst z2
        go_enter Try.func9, Try.ntmps9
        go_wp2_with (first | (go_at_call 21; (with_reducible refine (small_any _ _).mono ?_); (first | rw [Sn.out] | rw [Sm.out] | rw [Sw.out]); rintro e w' ⟨rfl, rfl⟩) | (go_at_call 27; (with_reducible refine (value_any _ _).mono ?_); (try rw [Vn.out]); rintro e w' ⟨rfl, rfl⟩) | (go_at_call 25; (with_reducible refine (isSmall_any _ _).mono ?_); (first | rw [In.out] | rw [Iw.out]); rintro e w' ⟨rfl, rfl⟩) | (go_at_call 23; (with_reducible refine (pointer_any _ _).mono ?_); rw [Pn.out]; rintro e w' ⟨rfl, rfl⟩) | (go_at_call 31; (with_reducible refine (address_any _ _).mono ?_); rw [An.out]; rintro e w' ⟨rfl, rfl⟩) | (go_at_call 29; (with_reducible refine (isPointer_any _ _).mono ?_); (first | rw [Jn.out] | rw [Jw.out]); rintro e w' ⟨rfl, rfl⟩) | (go_at_call 14; (with_reducible refine (lives_any _).mono ?_); rintro e w' ⟨rfl, hg⟩))
        go_ret
        exact ⟨rfl, by repeat (first | (with_reducible exact Grown.refl _) | (with_reducible assumption) | (with_reducible refine Grown.drewN ?_ _) | (with_reducible refine Grown.trans ?_ (by with_reducible assumption)))⟩
      · by_cases z4 : v = 4
        · subst z4
          go_enter Try.func9, Try.ntmps9
          go_wp2_with (first | (go_at_call 21; (with_reducible refine (small_any _ _).mono ?_); (first | rw [Sn.out] | rw [Sm.out] | rw [Sw.out]); rintro e w' ⟨rfl, rfl⟩) | (go_at_call 27; (with_reducible refine (value_any _ _).mono ?_); (try rw [Vn.out]); rintro e w' ⟨rfl, rfl⟩) | (go_at_call 25; (with_reducible refine (isSmall_any _ _).mono ?_); (first | rw [In.out] | rw [Iw.out]); rintro e w' ⟨rfl, rfl⟩) | (go_at_call 23; (with_reducible refine (pointer_any _ _).mono ?_); rw [Pn.out]; rintro e w' ⟨rfl, rfl⟩) | (go_at_call 31; (with_reducible refine (address_any _ _).mono ?_); rw [An.out]; rintro e w' ⟨rfl, rfl⟩) | (go_at_call 29; (with_reducible refine (isPointer_any _ _).mono ?_); (first | rw [Jn.out] | rw [Jw.out]); rintro e w' ⟨rfl, rfl⟩) | (go_at_call 14; (with_reducible refine (lives_any _).mono ?_); rintro e w' ⟨rfl, hg⟩))
          go_ret
          exact ⟨rfl, by repeat (first | (with_reducible exact Grown.refl _) | (with_reducible assumption) | (with_reducible refine Grown.drewN ?_ _) | (with_reducible refine Grown.trans ?_ (by with_reducible assumption)))⟩
        · have y0 : (v == 0) = false := by simpa using z0
          have y2 : (v == 2) = false := by simpa using z2
          have y4 : (v == 4) = false := by simpa using z4
          clear z0 z2 z4
          go_enter Try.func9, Try.ntmps9
          go_wp2_with (first | (go_at_call 21; (with_reducible refine (small_any _ _).mono ?_); (first | rw [Sn.out] | rw [Sm.out] | rw [Sw.out]); rintro e w' ⟨rfl, rfl⟩) | (go_at_call 27; (with_reducible refine (value_any _ _).mono ?_); (try rw [Vn.out]); rintro e w' ⟨rfl, rfl⟩) | (go_at_call 25; (with_reducible refine (isSmall_any _ _).mono ?_); (first | rw [In.out] | rw [Iw.out]); rintro e w' ⟨rfl, rfl⟩) | (go_at_call 23; (with_reducible refine (pointer_any _ _).mono ?_); rw [Pn.out]; rintro e w' ⟨rfl, rfl⟩) | (go_at_call 31; (with_reducible refine (address_any _ _).mono ?_); rw [An.out]; rintro e w' ⟨rfl, rfl⟩) | (go_at_call 29; (with_reducible refine (isPointer_any _ _).mono ?_); (first | rw [Jn.out] | rw [Jw.out]); rintro e w' ⟨rfl, rfl⟩) | (go_at_call 14; (with_reducible refine (lives_any _).mono ?_); rintro e w' ⟨rfl, hg⟩))
          go_ret
          exact ⟨rfl, by repeat (first | (with_reducible exact Grown.refl _) | (with_reducible assumption) | (with_reducible refine Grown.drewN ?_ _) | (with_reducible refine Grown.trans ?_ (by with_reducible assumption)))⟩
  · clear hsp
    obtain ⟨y0, y2, y4⟩ := K1.out rfl
    have Sw := Sw1
    go_enter Try.func9, Try.ntmps9
    go_wp2_with (first | (go_at_call 21; (with_reducible refine (small_any _ _).mono ?_); (first | rw [Sn.out] | rw [Sm.out] | rw [Sw.out]); rintro e w' ⟨rfl, rfl⟩) | (go_at_call 27; (with_reducible refine (value_any _ _).mono ?_); (try rw [Vn.out]); rintro e w' ⟨rfl, rfl⟩) | (go_at_call 25; (with_reducible refine (isSmall_any _ _).mono ?_); (first | rw [In.out] | rw [Iw.out]); rintro e w' ⟨rfl, rfl⟩) | (go_at_call 23; (with_reducible refine (pointer_any _ _).mono ?_); rw [Pn.out]; rintro e w' ⟨rfl, rfl⟩) | (go_at_call 31; (with_reducible refine (address_any _ _).mono ?_); rw [An.out]; rintro e w' ⟨rfl, rfl⟩) | (go_at_call 29; (with_reducible refine (isPointer_any _ _).mono ?_); (first | rw [Jn.out] | rw [Jw.out]); rintro e w' ⟨rfl, rfl⟩) | (go_at_call 14; (with_reducible refine (lives_any _).mono ?_); rintro e w' ⟨rfl, hg⟩))
    go_ret
    exact ⟨rfl, by repeat (first | (with_reducible exact Grown.refl _) | (with_reducible assumption) | (with_reducible refine Grown.drewN ?_ _) | (with_reducible refine Grown.trans ?_ (by with_reducible assumption)))⟩
  · clear hsp
    obtain ⟨y0, y2, y4⟩ := K1.out rfl
    have Sw := Lib.hid (Sw1.out rfl)
    go_enter Try.func9, Try.ntmps9
    go_wp2_with (first | (go_at_call 21; (with_reducible refine (small_any _ _).mono ?_); (first | rw [Sn.out] | rw [Sm.out] | rw [Sw.out]); rintro e w' ⟨rfl, rfl⟩) | (go_at_call 27; (with_reducible refine (value_any _ _).mono ?_); (try rw [Vn.out]); rintro e w' ⟨rfl, rfl⟩) | (go_at_call 25; (with_reducible refine (isSmall_any _ _).mono ?_); (first | rw [In.out] | rw [Iw.out]); rintro e w' ⟨rfl, rfl⟩) | (go_at_call 23; (with_reducible refine (pointer_any _ _).mono ?_); rw [Pn.out]; rintro e w' ⟨rfl, rfl⟩) | (go_at_call 31; (with_reducible refine (address_any _ _).mono ?_); rw [An.out]; rintro e w' ⟨rfl, rfl⟩) | (go_at_call 29; (with_reducible refine (isPointer_any _ _).mono ?_); (first | rw [Jn.out] | rw [Jw.out]); rintro e w' ⟨rfl, rfl⟩) | (go_at_call 14; (with_reducible refine (lives_any _).mono ?_); rintro e w' ⟨rfl, hg⟩))
    go_ret
    exact ⟨rfl, by repeat (first | (with_reducible exact Grown.refl _) | (with_reducible assumption) | (with_reducible refine Grown.drewN ?_ _) | (with_reducible refine Grown.trans ?_ (by with_reducible assumption)))⟩

set_option maxHeartbeats 4000000 in
theorem apart_bt (n m v : Int) (w : World) (hn : -1073741824 ≤ n ∧ n ≤ 1073741823) (hm : ¬ (-1073741824 ≤ m ∧ m ≤ 1073741823)) (hp : 3 ≤ n ∧ n ≤ 131072) :
    Calls Try.prog 9 #[.int .i64 n, .int .i64 m, .int .i64 v] w fun e w' => e = .returned (.bool true) ∧ Grown w w' := by
  obtain ⟨Pn0, An0, Jn0⟩ := pointer_facts n hp
  have Pn := Lib.hid Pn0; have An := Lib.hid An0; have Jn := Lib.hid Jn0
  clear Pn0 An0 Jn0 hp
  obtain ⟨Sn0, Vn0, In0⟩ := small_facts n hn
  have Sn := Lib.hid Sn0; have Vn := Lib.hid Vn0; have In := Lib.hid In0
  clear Sn0 Vn0 In0 hn
  have Sm : Hid (smallV m = (0, false)) := if_neg hm
  clear hm
  obtain ⟨s, p, ⟨Iw0, Jw0, Sw0, K0⟩, hsp⟩ := wcase v
  have Iw := Lib.hid Iw0; have Jw := Lib.hid Jw0; have Sw1 := Lib.hid Sw0; have K1 := Lib.hid K0
  clear Iw0 Jw0 Sw0 K0
  cases s <;> cases p <;> (try (exact absurd hsp (by decide)))
  · clear hsp
    have Sw := Sw1
    by_cases z0 : v = 0
    · subst z0
      go_enter Try.func9, Try.ntmps9
      go_wp2_with (first | (go_at_call 21; (with_reducible refine (small_any _ _).mono ?_); (first | rw [Sn.out] | rw [Sm.out] | rw [Sw.out]); rintro e w' ⟨rfl, rfl⟩) | (go_at_call 27; (with_reducible refine (value_any _ _).mono ?_); (try rw [Vn.out]); rintro e w' ⟨rfl, rfl⟩) | (go_at_call 25; (with_reducible refine (isSmall_any _ _).mono ?_); (first | rw [In.out] | rw [Iw.out]); rintro e w' ⟨rfl, rfl⟩) | (go_at_call 23; (with_reducible refine (pointer_any _ _).mono ?_); rw [Pn.out]; rintro e w' ⟨rfl, rfl⟩) | (go_at_call 31; (with_reducible refine (address_any _ _).mono ?_); rw [An.out]; rintro e w' ⟨rfl, rfl⟩) | (go_at_call 29; (with_reducible refine (isPointer_any _ _).mono ?_); (first | rw [Jn.out] | rw [Jw.out]); rintro e w' ⟨rfl, rfl⟩) | (go_at_call 14; (with_reducible refine (lives_any _).mono ?_); rintro e w' ⟨rfl, hg⟩))
      go_ret
      exact ⟨rfl, by repeat (first | (with_reducible exact Grown.refl _) | (with_reducible assumption) | (with_reducible refine Grown.drewN ?_ _) | (with_reducible refine Grown.trans ?_ (by with_reducible assumption)))⟩
    · by_cases z2 : v = 2
      · subst z2
        go_enter Try.func9, Try.ntmps9
        go_wp2_with (first | (go_at_call 21; (with_reducible refine (small_any _ _).mono ?_); (first | rw [Sn.out] | rw [Sm.out] | rw [Sw.out]); rintro e w' ⟨rfl, rfl⟩) | (go_at_call 27; (with_reducible refine (value_any _ _).mono ?_); (try rw [Vn.out]); rintro e w' ⟨rfl, rfl⟩) | (go_at_call 25; (with_reducible refine (isSmall_any _ _).mono ?_); (first | rw [In.out] | rw [Iw.out]); rintro e w' ⟨rfl, rfl⟩) | (go_at_call 23; (with_reducible refine (pointer_any _ _).mono ?_); rw [Pn.out]; rintro e w' ⟨rfl, rfl⟩) | (go_at_call 31; (with_reducible refine (address_any _ _).mono ?_); rw [An.out]; rintro e w' ⟨rfl, rfl⟩) | (go_at_call 29; (with_reducible refine (isPointer_any _ _).mono ?_); (first | rw [Jn.out] | rw [Jw.out]); rintro e w' ⟨rfl, rfl⟩) | (go_at_call 14; (with_reducible refine (lives_any _).mono ?_); rintro e w' ⟨rfl, hg⟩))
        go_ret
        exact ⟨rfl, by repeat (first | (with_reducible exact Grown.refl _) | (with_reducible assumption) | (with_reducible refine Grown.drewN ?_ _) | (with_reducible refine Grown.trans ?_ (by with_reducible assumption)))⟩
      · by_cases z4 : v = 4
        · subst z4
          go_enter Try.func9, Try.ntmps9
          go_wp2_with (first | (go_at_call 21; (with_reducible refine (small_any _ _).mono ?_); (first | rw [Sn.out] | rw [Sm.out] | rw [Sw.out]); rintro e w' ⟨rfl, rfl⟩) | (go_at_call 27; (with_reducible refine (value_any _ _).mono ?_); (try rw [Vn.out]); rintro e w' ⟨rfl, rfl⟩) | (go_at_call 25; (with_reducible refine (isSmall_any _ _).mono ?_); (first | rw [In.out] | rw [Iw.out]); rintro e w' ⟨rfl, rfl⟩) | (go_at_call 23; (with_reducible refine (pointer_any _ _).mono ?_); rw [Pn.out]; rintro e w' ⟨rfl, rfl⟩) | (go_at_call 31; (with_reducible refine (address_any _ _).mono ?_); rw [An.out]; rintro e w' ⟨rfl, rfl⟩) | (go_at_call 29; (with_reducible refine (isPointer_any _ _).mono ?_); (first | rw [Jn.out] | rw [Jw.out]); rintro e w' ⟨rfl, rfl⟩) | (go_at_call 14; (with_reducible refine (lives_any _).mono ?_); rintro e w' ⟨rfl, hg⟩))
          go_ret
          exact ⟨rfl, by repeat (first | (with_reducible exact Grown.refl _) | (with_reducible assumption) | (with_reducible refine Grown.drewN ?_ _) | (with_reducible refine Grown.trans ?_ (by with_reducible assumption)))⟩
        · have y0 : (v == 0) = false := by simpa using z0
          have y2 : (v == 2) = false := by simpa using z2
          have y4 : (v == 4) = false := by simpa using z4
          clear z0 z2 z4
          go_enter Try.func9, Try.ntmps9
          go_wp2_with (first | (go_at_call 21; (with_reducible refine (small_any _ _).mono ?_); (first | rw [Sn.out] | rw [Sm.out] | rw [Sw.out]); rintro e w' ⟨rfl, rfl⟩) | (go_at_call 27; (with_reducible refine (value_any _ _).mono ?_); (try rw [Vn.out]); rintro e w' ⟨rfl, rfl⟩) | (go_at_call 25; (with_reducible refine (isSmall_any _ _).mono ?_); (first | rw [In.out] | rw [Iw.out]); rintro e w' ⟨rfl, rfl⟩) | (go_at_call 23; (with_reducible refine (pointer_any _ _).mono ?_); rw [Pn.out]; rintro e w' ⟨rfl, rfl⟩) | (go_at_call 31; (with_reducible refine (address_any _ _).mono ?_); rw [An.out]; rintro e w' ⟨rfl, rfl⟩) | (go_at_call 29; (with_reducible refine (isPointer_any _ _).mono ?_); (first | rw [Jn.out] | rw [Jw.out]); rintro e w' ⟨rfl, rfl⟩) | (go_at_call 14; (with_reducible refine (lives_any _).mono ?_); rintro e w' ⟨rfl, hg⟩))
          go_ret
          exact ⟨rfl, by repeat (first | (with_reducible exact Grown.refl _) | (with_reducible assumption) | (with_reducible refine Grown.drewN ?_ _) | (with_reducible refine Grown.trans ?_ (by with_reducible assumption)))⟩
  · clear hsp
    obtain ⟨y0, y2, y4⟩ := K1.out rfl
    have Sw := Sw1
    go_enter Try.func9, Try.ntmps9
    go_wp2_with (first | (go_at_call 21; (with_reducible refine (small_any _ _).mono ?_); (first | rw [Sn.out] | rw [Sm.out] | rw [Sw.out]); rintro e w' ⟨rfl, rfl⟩) | (go_at_call 27; (with_reducible refine (value_any _ _).mono ?_); (try rw [Vn.out]); rintro e w' ⟨rfl, rfl⟩) | (go_at_call 25; (with_reducible refine (isSmall_any _ _).mono ?_); (first | rw [In.out] | rw [Iw.out]); rintro e w' ⟨rfl, rfl⟩) | (go_at_call 23; (with_reducible refine (pointer_any _ _).mono ?_); rw [Pn.out]; rintro e w' ⟨rfl, rfl⟩) | (go_at_call 31; (with_reducible refine (address_any _ _).mono ?_); rw [An.out]; rintro e w' ⟨rfl, rfl⟩) | (go_at_call 29; (with_reducible refine (isPointer_any _ _).mono ?_); (first | rw [Jn.out] | rw [Jw.out]); rintro e w' ⟨rfl, rfl⟩) | (go_at_call 14; (with_reducible refine (lives_any _).mono ?_); rintro e w' ⟨rfl, hg⟩))
    go_ret
    exact ⟨rfl, by repeat (first | (with_reducible exact Grown.refl _) | (with_reducible assumption) | (with_reducible refine Grown.drewN ?_ _) | (with_reducible refine Grown.trans ?_ (by with_reducible assumption)))⟩
  · clear hsp
    obtain ⟨y0, y2, y4⟩ := K1.out rfl
    have Sw := Lib.hid (Sw1.out rfl)
    go_enter Try.func9, Try.ntmps9
    go_wp2_with (first | (go_at_call 21; (with_reducible refine (small_any _ _).mono ?_); (first | rw [Sn.out] | rw [Sm.out] | rw [Sw.out]); rintro e w' ⟨rfl, rfl⟩) | (go_at_call 27; (with_reducible refine (value_any _ _).mono ?_); (try rw [Vn.out]); rintro e w' ⟨rfl, rfl⟩) | (go_at_call 25; (with_reducible refine (isSmall_any _ _).mono ?_); (first | rw [In.out] | rw [Iw.out]); rintro e w' ⟨rfl, rfl⟩) | (go_at_call 23; (with_reducible refine (pointer_any _ _).mono ?_); rw [Pn.out]; rintro e w' ⟨rfl, rfl⟩) | (go_at_call 31; (with_reducible refine (address_any _ _).mono ?_); rw [An.out]; rintro e w' ⟨rfl, rfl⟩) | (go_at_call 29; (with_reducible refine (isPointer_any _ _).mono ?_); (first | rw [Jn.out] | rw [Jw.out]); rintro e w' ⟨rfl, rfl⟩) | (go_at_call 14; (with_reducible refine (lives_any _).mono ?_); rintro e w' ⟨rfl, hg⟩))
    go_ret
    exact ⟨rfl, by repeat (first | (with_reducible exact Grown.refl _) | (with_reducible assumption) | (with_reducible refine Grown.drewN ?_ _) | (with_reducible refine Grown.trans ?_ (by with_reducible assumption)))⟩

set_option maxHeartbeats 4000000 in
theorem apart_bf (n m v : Int) (w : World) (hn : -1073741824 ≤ n ∧ n ≤ 1073741823) (hm : ¬ (-1073741824 ≤ m ∧ m ≤ 1073741823)) (hp : ¬ (3 ≤ n ∧ n ≤ 131072)) :
    Calls Try.prog 9 #[.int .i64 n, .int .i64 m, .int .i64 v] w fun e w' => e = .returned (.bool true) ∧ Grown w w' := by
  have Pn : Hid (pointerV n = (0, false)) := if_neg hp
  have An : Hid (n = n) := rfl
  have Jn : Hid (n = n) := rfl
  clear hp
  obtain ⟨Sn0, Vn0, In0⟩ := small_facts n hn
  have Sn := Lib.hid Sn0; have Vn := Lib.hid Vn0; have In := Lib.hid In0
  clear Sn0 Vn0 In0 hn
  have Sm : Hid (smallV m = (0, false)) := if_neg hm
  clear hm
  obtain ⟨s, p, ⟨Iw0, Jw0, Sw0, K0⟩, hsp⟩ := wcase v
  have Iw := Lib.hid Iw0; have Jw := Lib.hid Jw0; have Sw1 := Lib.hid Sw0; have K1 := Lib.hid K0
  clear Iw0 Jw0 Sw0 K0
  cases s <;> cases p <;> (try (exact absurd hsp (by decide)))
  · clear hsp
    have Sw := Sw1
    by_cases z0 : v = 0
    · subst z0
      go_enter Try.func9, Try.ntmps9
      go_wp2_with (first | (go_at_call 21; (with_reducible refine (small_any _ _).mono ?_); (first | rw [Sn.out] | rw [Sm.out] | rw [Sw.out]); rintro e w' ⟨rfl, rfl⟩) | (go_at_call 27; (with_reducible refine (value_any _ _).mono ?_); (try rw [Vn.out]); rintro e w' ⟨rfl, rfl⟩) | (go_at_call 25; (with_reducible refine (isSmall_any _ _).mono ?_); (first | rw [In.out] | rw [Iw.out]); rintro e w' ⟨rfl, rfl⟩) | (go_at_call 23; (with_reducible refine (pointer_any _ _).mono ?_); rw [Pn.out]; rintro e w' ⟨rfl, rfl⟩) | (go_at_call 31; (with_reducible refine (address_any _ _).mono ?_); rw [An.out]; rintro e w' ⟨rfl, rfl⟩) | (go_at_call 29; (with_reducible refine (isPointer_any _ _).mono ?_); (first | rw [Jn.out] | rw [Jw.out]); rintro e w' ⟨rfl, rfl⟩) | (go_at_call 14; (with_reducible refine (lives_any _).mono ?_); rintro e w' ⟨rfl, hg⟩))
      go_ret
      exact ⟨rfl, by repeat (first | (with_reducible exact Grown.refl _) | (with_reducible assumption) | (with_reducible refine Grown.drewN ?_ _) | (with_reducible refine Grown.trans ?_ (by with_reducible assumption)))⟩
    · by_cases z2 : v = 2
      · subst z2
        go_enter Try.func9, Try.ntmps9
        go_wp2_with (first | (go_at_call 21; (with_reducible refine (small_any _ _).mono ?_); (first | rw [Sn.out] | rw [Sm.out] | rw [Sw.out]); rintro e w' ⟨rfl, rfl⟩) | (go_at_call 27; (with_reducible refine (value_any _ _).mono ?_); (try rw [Vn.out]); rintro e w' ⟨rfl, rfl⟩) | (go_at_call 25; (with_reducible refine (isSmall_any _ _).mono ?_); (first | rw [In.out] | rw [Iw.out]); rintro e w' ⟨rfl, rfl⟩) | (go_at_call 23; (with_reducible refine (pointer_any _ _).mono ?_); rw [Pn.out]; rintro e w' ⟨rfl, rfl⟩) | (go_at_call 31; (with_reducible refine (address_any _ _).mono ?_); rw [An.out]; rintro e w' ⟨rfl, rfl⟩) | (go_at_call 29; (with_reducible refine (isPointer_any _ _).mono ?_); (first | rw [Jn.out] | rw [Jw.out]); rintro e w' ⟨rfl, rfl⟩) | (go_at_call 14; (with_reducible refine (lives_any _).mono ?_); rintro e w' ⟨rfl, hg⟩))
        go_ret
        exact ⟨rfl, by repeat (first | (with_reducible exact Grown.refl _) | (with_reducible assumption) | (with_reducible refine Grown.drewN ?_ _) | (with_reducible refine Grown.trans ?_ (by with_reducible assumption)))⟩
      · by_cases z4 : v = 4
        · subst z4
          go_enter Try.func9, Try.ntmps9
          go_wp2_with (first | (go_at_call 21; (with_reducible refine (small_any _ _).mono ?_); (first | rw [Sn.out] | rw [Sm.out] | rw [Sw.out]); rintro e w' ⟨rfl, rfl⟩) | (go_at_call 27; (with_reducible refine (value_any _ _).mono ?_); (try rw [Vn.out]); rintro e w' ⟨rfl, rfl⟩) | (go_at_call 25; (with_reducible refine (isSmall_any _ _).mono ?_); (first | rw [In.out] | rw [Iw.out]); rintro e w' ⟨rfl, rfl⟩) | (go_at_call 23; (with_reducible refine (pointer_any _ _).mono ?_); rw [Pn.out]; rintro e w' ⟨rfl, rfl⟩) | (go_at_call 31; (with_reducible refine (address_any _ _).mono ?_); rw [An.out]; rintro e w' ⟨rfl, rfl⟩) | (go_at_call 29; (with_reducible refine (isPointer_any _ _).mono ?_); (first | rw [Jn.out] | rw [Jw.out]); rintro e w' ⟨rfl, rfl⟩) | (go_at_call 14; (with_reducible refine (lives_any _).mono ?_); rintro e w' ⟨rfl, hg⟩))
          go_ret
          exact ⟨rfl, by repeat (first | (with_reducible exact Grown.refl _) | (with_reducible assumption) | (with_reducible refine Grown.drewN ?_ _) | (with_reducible refine Grown.trans ?_ (by with_reducible assumption)))⟩
        · have y0 : (v == 0) = false := by simpa using z0
          have y2 : (v == 2) = false := by simpa using z2
          have y4 : (v == 4) = false := by simpa using z4
          clear z0 z2 z4
          go_enter Try.func9, Try.ntmps9
          go_wp2_with (first | (go_at_call 21; (with_reducible refine (small_any _ _).mono ?_); (first | rw [Sn.out] | rw [Sm.out] | rw [Sw.out]); rintro e w' ⟨rfl, rfl⟩) | (go_at_call 27; (with_reducible refine (value_any _ _).mono ?_); (try rw [Vn.out]); rintro e w' ⟨rfl, rfl⟩) | (go_at_call 25; (with_reducible refine (isSmall_any _ _).mono ?_); (first | rw [In.out] | rw [Iw.out]); rintro e w' ⟨rfl, rfl⟩) | (go_at_call 23; (with_reducible refine (pointer_any _ _).mono ?_); rw [Pn.out]; rintro e w' ⟨rfl, rfl⟩) | (go_at_call 31; (with_reducible refine (address_any _ _).mono ?_); rw [An.out]; rintro e w' ⟨rfl, rfl⟩) | (go_at_call 29; (with_reducible refine (isPointer_any _ _).mono ?_); (first | rw [Jn.out] | rw [Jw.out]); rintro e w' ⟨rfl, rfl⟩) | (go_at_call 14; (with_reducible refine (lives_any _).mono ?_); rintro e w' ⟨rfl, hg⟩))
          go_ret
          exact ⟨rfl, by repeat (first | (with_reducible exact Grown.refl _) | (with_reducible assumption) | (with_reducible refine Grown.drewN ?_ _) | (with_reducible refine Grown.trans ?_ (by with_reducible assumption)))⟩
  · clear hsp
    obtain ⟨y0, y2, y4⟩ := K1.out rfl
    have Sw := Sw1
    go_enter Try.func9, Try.ntmps9
    go_wp2_with (first | (go_at_call 21; (with_reducible refine (small_any _ _).mono ?_); (first | rw [Sn.out] | rw [Sm.out] | rw [Sw.out]); rintro e w' ⟨rfl, rfl⟩) | (go_at_call 27; (with_reducible refine (value_any _ _).mono ?_); (try rw [Vn.out]); rintro e w' ⟨rfl, rfl⟩) | (go_at_call 25; (with_reducible refine (isSmall_any _ _).mono ?_); (first | rw [In.out] | rw [Iw.out]); rintro e w' ⟨rfl, rfl⟩) | (go_at_call 23; (with_reducible refine (pointer_any _ _).mono ?_); rw [Pn.out]; rintro e w' ⟨rfl, rfl⟩) | (go_at_call 31; (with_reducible refine (address_any _ _).mono ?_); rw [An.out]; rintro e w' ⟨rfl, rfl⟩) | (go_at_call 29; (with_reducible refine (isPointer_any _ _).mono ?_); (first | rw [Jn.out] | rw [Jw.out]); rintro e w' ⟨rfl, rfl⟩) | (go_at_call 14; (with_reducible refine (lives_any _).mono ?_); rintro e w' ⟨rfl, hg⟩))
    go_ret
    exact ⟨rfl, by repeat (first | (with_reducible exact Grown.refl _) | (with_reducible assumption) | (with_reducible refine Grown.drewN ?_ _) | (with_reducible refine Grown.trans ?_ (by with_reducible assumption)))⟩
  · clear hsp
    obtain ⟨y0, y2, y4⟩ := K1.out rfl
    have Sw := Lib.hid (Sw1.out rfl)
    go_enter Try.func9, Try.ntmps9
    go_wp2_with (first | (go_at_call 21; (with_reducible refine (small_any _ _).mono ?_); (first | rw [Sn.out] | rw [Sm.out] | rw [Sw.out]); rintro e w' ⟨rfl, rfl⟩) | (go_at_call 27; (with_reducible refine (value_any _ _).mono ?_); (try rw [Vn.out]); rintro e w' ⟨rfl, rfl⟩) | (go_at_call 25; (with_reducible refine (isSmall_any _ _).mono ?_); (first | rw [In.out] | rw [Iw.out]); rintro e w' ⟨rfl, rfl⟩) | (go_at_call 23; (with_reducible refine (pointer_any _ _).mono ?_); rw [Pn.out]; rintro e w' ⟨rfl, rfl⟩) | (go_at_call 31; (with_reducible refine (address_any _ _).mono ?_); rw [An.out]; rintro e w' ⟨rfl, rfl⟩) | (go_at_call 29; (with_reducible refine (isPointer_any _ _).mono ?_); (first | rw [Jn.out] | rw [Jw.out]); rintro e w' ⟨rfl, rfl⟩) | (go_at_call 14; (with_reducible refine (lives_any _).mono ?_); rintro e w' ⟨rfl, hg⟩))
    go_ret
    exact ⟨rfl, by repeat (first | (with_reducible exact Grown.refl _) | (with_reducible assumption) | (with_reducible refine Grown.drewN ?_ _) | (with_reducible refine Grown.trans ?_ (by with_reducible assumption)))⟩

set_option maxHeartbeats 4000000 in
theorem apart_ct (n m v : Int) (w : World) (hn : -1073741824 ≤ n ∧ n ≤ 1073741823) (hm : n = m) (hp : 3 ≤ n ∧ n ≤ 131072) :
    Calls Try.prog 9 #[.int .i64 n, .int .i64 m, .int .i64 v] w fun e w' => e = .returned (.bool true) ∧ Grown w w' := by
  obtain ⟨Pn0, An0, Jn0⟩ := pointer_facts n hp
  have Pn := Lib.hid Pn0; have An := Lib.hid An0; have Jn := Lib.hid Jn0
  clear Pn0 An0 Jn0 hp
  subst hm
  obtain ⟨Sn0, Vn0, In0⟩ := small_facts n hn
  have Sn := Lib.hid Sn0; have Vn := Lib.hid Vn0; have In := Lib.hid In0
  have Sm := Sn
  clear Sn0 Vn0 In0 hn
  obtain ⟨s, p, ⟨Iw0, Jw0, Sw0, K0⟩, hsp⟩ := wcase v
  have Iw := Lib.hid Iw0; have Jw := Lib.hid Jw0; have Sw1 := Lib.hid Sw0; have K1 := Lib.hid K0
  clear Iw0 Jw0 Sw0 K0
  cases s <;> cases p <;> (try (exact absurd hsp (by decide)))
  · clear hsp
    have Sw := Sw1
    by_cases z0 : v = 0
    · subst z0
      go_enter Try.func9, Try.ntmps9
      go_wp2_with (first | (go_at_call 21; (with_reducible refine (small_any _ _).mono ?_); (first | rw [Sn.out] | rw [Sm.out] | rw [Sw.out]); rintro e w' ⟨rfl, rfl⟩) | (go_at_call 27; (with_reducible refine (value_any _ _).mono ?_); (try rw [Vn.out]); rintro e w' ⟨rfl, rfl⟩) | (go_at_call 25; (with_reducible refine (isSmall_any _ _).mono ?_); (first | rw [In.out] | rw [Iw.out]); rintro e w' ⟨rfl, rfl⟩) | (go_at_call 23; (with_reducible refine (pointer_any _ _).mono ?_); rw [Pn.out]; rintro e w' ⟨rfl, rfl⟩) | (go_at_call 31; (with_reducible refine (address_any _ _).mono ?_); rw [An.out]; rintro e w' ⟨rfl, rfl⟩) | (go_at_call 29; (with_reducible refine (isPointer_any _ _).mono ?_); (first | rw [Jn.out] | rw [Jw.out]); rintro e w' ⟨rfl, rfl⟩) | (go_at_call 14; (with_reducible refine (lives_any _).mono ?_); rintro e w' ⟨rfl, hg⟩))
      go_ret
      exact ⟨rfl, by repeat (first | (with_reducible exact Grown.refl _) | (with_reducible assumption) | (with_reducible refine Grown.drewN ?_ _) | (with_reducible refine Grown.trans ?_ (by with_reducible assumption)))⟩
    · by_cases z2 : v = 2
      · subst z2
        go_enter Try.func9, Try.ntmps9
        go_wp2_with (first | (go_at_call 21; (with_reducible refine (small_any _ _).mono ?_); (first | rw [Sn.out] | rw [Sm.out] | rw [Sw.out]); rintro e w' ⟨rfl, rfl⟩) | (go_at_call 27; (with_reducible refine (value_any _ _).mono ?_); (try rw [Vn.out]); rintro e w' ⟨rfl, rfl⟩) | (go_at_call 25; (with_reducible refine (isSmall_any _ _).mono ?_); (first | rw [In.out] | rw [Iw.out]); rintro e w' ⟨rfl, rfl⟩) | (go_at_call 23; (with_reducible refine (pointer_any _ _).mono ?_); rw [Pn.out]; rintro e w' ⟨rfl, rfl⟩) | (go_at_call 31; (with_reducible refine (address_any _ _).mono ?_); rw [An.out]; rintro e w' ⟨rfl, rfl⟩) | (go_at_call 29; (with_reducible refine (isPointer_any _ _).mono ?_); (first | rw [Jn.out] | rw [Jw.out]); rintro e w' ⟨rfl, rfl⟩) | (go_at_call 14; (with_reducible refine (lives_any _).mono ?_); rintro e w' ⟨rfl, hg⟩))
        go_ret
        exact ⟨rfl, by repeat (first | (with_reducible exact Grown.refl _) | (with_reducible assumption) | (with_reducible refine Grown.drewN ?_ _) | (with_reducible refine Grown.trans ?_ (by with_reducible assumption)))⟩
      · by_cases z4 : v = 4
        · subst z4
          go_enter Try.func9, Try.ntmps9
          go_wp2_with (first | (go_at_call 21; (with_reducible refine (small_any _ _).mono ?_); (first | rw [Sn.out] | rw [Sm.out] | rw [Sw.out]); rintro e w' ⟨rfl, rfl⟩) | (go_at_call 27; (with_reducible refine (value_any _ _).mono ?_); (try rw [Vn.out]); rintro e w' ⟨rfl, rfl⟩) | (go_at_call 25; (with_reducible refine (isSmall_any _ _).mono ?_); (first | rw [In.out] | rw [Iw.out]); rintro e w' ⟨rfl, rfl⟩) | (go_at_call 23; (with_reducible refine (pointer_any _ _).mono ?_); rw [Pn.out]; rintro e w' ⟨rfl, rfl⟩) | (go_at_call 31; (with_reducible refine (address_any _ _).mono ?_); rw [An.out]; rintro e w' ⟨rfl, rfl⟩) | (go_at_call 29; (with_reducible refine (isPointer_any _ _).mono ?_); (first | rw [Jn.out] | rw [Jw.out]); rintro e w' ⟨rfl, rfl⟩) | (go_at_call 14; (with_reducible refine (lives_any _).mono ?_); rintro e w' ⟨rfl, hg⟩))
          go_ret
          exact ⟨rfl, by repeat (first | (with_reducible exact Grown.refl _) | (with_reducible assumption) | (with_reducible refine Grown.drewN ?_ _) | (with_reducible refine Grown.trans ?_ (by with_reducible assumption)))⟩
        · have y0 : (v == 0) = false := by simpa using z0
          have y2 : (v == 2) = false := by simpa using z2
          have y4 : (v == 4) = false := by simpa using z4
          clear z0 z2 z4
          go_enter Try.func9, Try.ntmps9
          go_wp2_with (first | (go_at_call 21; (with_reducible refine (small_any _ _).mono ?_); (first | rw [Sn.out] | rw [Sm.out] | rw [Sw.out]); rintro e w' ⟨rfl, rfl⟩) | (go_at_call 27; (with_reducible refine (value_any _ _).mono ?_); (try rw [Vn.out]); rintro e w' ⟨rfl, rfl⟩) | (go_at_call 25; (with_reducible refine (isSmall_any _ _).mono ?_); (first | rw [In.out] | rw [Iw.out]); rintro e w' ⟨rfl, rfl⟩) | (go_at_call 23; (with_reducible refine (pointer_any _ _).mono ?_); rw [Pn.out]; rintro e w' ⟨rfl, rfl⟩) | (go_at_call 31; (with_reducible refine (address_any _ _).mono ?_); rw [An.out]; rintro e w' ⟨rfl, rfl⟩) | (go_at_call 29; (with_reducible refine (isPointer_any _ _).mono ?_); (first | rw [Jn.out] | rw [Jw.out]); rintro e w' ⟨rfl, rfl⟩) | (go_at_call 14; (with_reducible refine (lives_any _).mono ?_); rintro e w' ⟨rfl, hg⟩))
          go_ret
          exact ⟨rfl, by repeat (first | (with_reducible exact Grown.refl _) | (with_reducible assumption) | (with_reducible refine Grown.drewN ?_ _) | (with_reducible refine Grown.trans ?_ (by with_reducible assumption)))⟩
  · clear hsp
    obtain ⟨y0, y2, y4⟩ := K1.out rfl
    have Sw := Sw1
    go_enter Try.func9, Try.ntmps9
    go_wp2_with (first | (go_at_call 21; (with_reducible refine (small_any _ _).mono ?_); (first | rw [Sn.out] | rw [Sm.out] | rw [Sw.out]); rintro e w' ⟨rfl, rfl⟩) | (go_at_call 27; (with_reducible refine (value_any _ _).mono ?_); (try rw [Vn.out]); rintro e w' ⟨rfl, rfl⟩) | (go_at_call 25; (with_reducible refine (isSmall_any _ _).mono ?_); (first | rw [In.out] | rw [Iw.out]); rintro e w' ⟨rfl, rfl⟩) | (go_at_call 23; (with_reducible refine (pointer_any _ _).mono ?_); rw [Pn.out]; rintro e w' ⟨rfl, rfl⟩) | (go_at_call 31; (with_reducible refine (address_any _ _).mono ?_); rw [An.out]; rintro e w' ⟨rfl, rfl⟩) | (go_at_call 29; (with_reducible refine (isPointer_any _ _).mono ?_); (first | rw [Jn.out] | rw [Jw.out]); rintro e w' ⟨rfl, rfl⟩) | (go_at_call 14; (with_reducible refine (lives_any _).mono ?_); rintro e w' ⟨rfl, hg⟩))
    go_ret
    exact ⟨rfl, by repeat (first | (with_reducible exact Grown.refl _) | (with_reducible assumption) | (with_reducible refine Grown.drewN ?_ _) | (with_reducible refine Grown.trans ?_ (by with_reducible assumption)))⟩
  · clear hsp
    obtain ⟨y0, y2, y4⟩ := K1.out rfl
    have Sw := Lib.hid (Sw1.out rfl)
    go_enter Try.func9, Try.ntmps9
    go_wp2_with (first | (go_at_call 21; (with_reducible refine (small_any _ _).mono ?_); (first | rw [Sn.out] | rw [Sm.out] | rw [Sw.out]); rintro e w' ⟨rfl, rfl⟩) | (go_at_call 27; (with_reducible refine (value_any _ _).mono ?_); (try rw [Vn.out]); rintro e w' ⟨rfl, rfl⟩) | (go_at_call 25; (with_reducible refine (isSmall_any _ _).mono ?_); (first | rw [In.out] | rw [Iw.out]); rintro e w' ⟨rfl, rfl⟩) | (go_at_call 23; (with_reducible refine (pointer_any _ _).mono ?_); rw [Pn.out]; rintro e w' ⟨rfl, rfl⟩) | (go_at_call 31; (with_reducible refine (address_any _ _).mono ?_); rw [An.out]; rintro e w' ⟨rfl, rfl⟩) | (go_at_call 29; (with_reducible refine (isPointer_any _ _).mono ?_); (first | rw [Jn.out] | rw [Jw.out]); rintro e w' ⟨rfl, rfl⟩) | (go_at_call 14; (with_reducible refine (lives_any _).mono ?_); rintro e w' ⟨rfl, hg⟩))
    go_ret
    exact ⟨rfl, by repeat (first | (with_reducible exact Grown.refl _) | (with_reducible assumption) | (with_reducible refine Grown.drewN ?_ _) | (with_reducible refine Grown.trans ?_ (by with_reducible assumption)))⟩

set_option maxHeartbeats 4000000 in
theorem apart_cf (n m v : Int) (w : World) (hn : -1073741824 ≤ n ∧ n ≤ 1073741823) (hm : n = m) (hp : ¬ (3 ≤ n ∧ n ≤ 131072)) :
    Calls Try.prog 9 #[.int .i64 n, .int .i64 m, .int .i64 v] w fun e w' => e = .returned (.bool true) ∧ Grown w w' := by
  have Pn : Hid (pointerV n = (0, false)) := if_neg hp
  have An : Hid (n = n) := rfl
  have Jn : Hid (n = n) := rfl
  clear hp
  subst hm
  obtain ⟨Sn0, Vn0, In0⟩ := small_facts n hn
  have Sn := Lib.hid Sn0; have Vn := Lib.hid Vn0; have In := Lib.hid In0
  have Sm := Sn
  clear Sn0 Vn0 In0 hn
  obtain ⟨s, p, ⟨Iw0, Jw0, Sw0, K0⟩, hsp⟩ := wcase v
  have Iw := Lib.hid Iw0; have Jw := Lib.hid Jw0; have Sw1 := Lib.hid Sw0; have K1 := Lib.hid K0
  clear Iw0 Jw0 Sw0 K0
  cases s <;> cases p <;> (try (exact absurd hsp (by decide)))
  · clear hsp
    have Sw := Sw1
    by_cases z0 : v = 0
    · subst z0
      go_enter Try.func9, Try.ntmps9
      go_wp2_with (first | (go_at_call 21; (with_reducible refine (small_any _ _).mono ?_); (first | rw [Sn.out] | rw [Sm.out] | rw [Sw.out]); rintro e w' ⟨rfl, rfl⟩) | (go_at_call 27; (with_reducible refine (value_any _ _).mono ?_); (try rw [Vn.out]); rintro e w' ⟨rfl, rfl⟩) | (go_at_call 25; (with_reducible refine (isSmall_any _ _).mono ?_); (first | rw [In.out] | rw [Iw.out]); rintro e w' ⟨rfl, rfl⟩) | (go_at_call 23; (with_reducible refine (pointer_any _ _).mono ?_); rw [Pn.out]; rintro e w' ⟨rfl, rfl⟩) | (go_at_call 31; (with_reducible refine (address_any _ _).mono ?_); rw [An.out]; rintro e w' ⟨rfl, rfl⟩) | (go_at_call 29; (with_reducible refine (isPointer_any _ _).mono ?_); (first | rw [Jn.out] | rw [Jw.out]); rintro e w' ⟨rfl, rfl⟩) | (go_at_call 14; (with_reducible refine (lives_any _).mono ?_); rintro e w' ⟨rfl, hg⟩))
      go_ret
      exact ⟨rfl, by repeat (first | (with_reducible exact Grown.refl _) | (with_reducible assumption) | (with_reducible refine Grown.drewN ?_ _) | (with_reducible refine Grown.trans ?_ (by with_reducible assumption)))⟩
    · by_cases z2 : v = 2
      · subst z2
        go_enter Try.func9, Try.ntmps9
        go_wp2_with (first | (go_at_call 21; (with_reducible refine (small_any _ _).mono ?_); (first | rw [Sn.out] | rw [Sm.out] | rw [Sw.out]); rintro e w' ⟨rfl, rfl⟩) | (go_at_call 27; (with_reducible refine (value_any _ _).mono ?_); (try rw [Vn.out]); rintro e w' ⟨rfl, rfl⟩) | (go_at_call 25; (with_reducible refine (isSmall_any _ _).mono ?_); (first | rw [In.out] | rw [Iw.out]); rintro e w' ⟨rfl, rfl⟩) | (go_at_call 23; (with_reducible refine (pointer_any _ _).mono ?_); rw [Pn.out]; rintro e w' ⟨rfl, rfl⟩) | (go_at_call 31; (with_reducible refine (address_any _ _).mono ?_); rw [An.out]; rintro e w' ⟨rfl, rfl⟩) | (go_at_call 29; (with_reducible refine (isPointer_any _ _).mono ?_); (first | rw [Jn.out] | rw [Jw.out]); rintro e w' ⟨rfl, rfl⟩) | (go_at_call 14; (with_reducible refine (lives_any _).mono ?_); rintro e w' ⟨rfl, hg⟩))
        go_ret
        exact ⟨rfl, by repeat (first | (with_reducible exact Grown.refl _) | (with_reducible assumption) | (with_reducible refine Grown.drewN ?_ _) | (with_reducible refine Grown.trans ?_ (by with_reducible assumption)))⟩
      · by_cases z4 : v = 4
        · subst z4
          go_enter Try.func9, Try.ntmps9
          go_wp2_with (first | (go_at_call 21; (with_reducible refine (small_any _ _).mono ?_); (first | rw [Sn.out] | rw [Sm.out] | rw [Sw.out]); rintro e w' ⟨rfl, rfl⟩) | (go_at_call 27; (with_reducible refine (value_any _ _).mono ?_); (try rw [Vn.out]); rintro e w' ⟨rfl, rfl⟩) | (go_at_call 25; (with_reducible refine (isSmall_any _ _).mono ?_); (first | rw [In.out] | rw [Iw.out]); rintro e w' ⟨rfl, rfl⟩) | (go_at_call 23; (with_reducible refine (pointer_any _ _).mono ?_); rw [Pn.out]; rintro e w' ⟨rfl, rfl⟩) | (go_at_call 31; (with_reducible refine (address_any _ _).mono ?_); rw [An.out]; rintro e w' ⟨rfl, rfl⟩) | (go_at_call 29; (with_reducible refine (isPointer_any _ _).mono ?_); (first | rw [Jn.out] | rw [Jw.out]); rintro e w' ⟨rfl, rfl⟩) | (go_at_call 14; (with_reducible refine (lives_any _).mono ?_); rintro e w' ⟨rfl, hg⟩))
          go_ret
          exact ⟨rfl, by repeat (first | (with_reducible exact Grown.refl _) | (with_reducible assumption) | (with_reducible refine Grown.drewN ?_ _) | (with_reducible refine Grown.trans ?_ (by with_reducible assumption)))⟩
        · have y0 : (v == 0) = false := by simpa using z0
          have y2 : (v == 2) = false := by simpa using z2
          have y4 : (v == 4) = false := by simpa using z4
          clear z0 z2 z4
          go_enter Try.func9, Try.ntmps9
          go_wp2_with (first | (go_at_call 21; (with_reducible refine (small_any _ _).mono ?_); (first | rw [Sn.out] | rw [Sm.out] | rw [Sw.out]); rintro e w' ⟨rfl, rfl⟩) | (go_at_call 27; (with_reducible refine (value_any _ _).mono ?_); (try rw [Vn.out]); rintro e w' ⟨rfl, rfl⟩) | (go_at_call 25; (with_reducible refine (isSmall_any _ _).mono ?_); (first | rw [In.out] | rw [Iw.out]); rintro e w' ⟨rfl, rfl⟩) | (go_at_call 23; (with_reducible refine (pointer_any _ _).mono ?_); rw [Pn.out]; rintro e w' ⟨rfl, rfl⟩) | (go_at_call 31; (with_reducible refine (address_any _ _).mono ?_); rw [An.out]; rintro e w' ⟨rfl, rfl⟩) | (go_at_call 29; (with_reducible refine (isPointer_any _ _).mono ?_); (first | rw [Jn.out] | rw [Jw.out]); rintro e w' ⟨rfl, rfl⟩) | (go_at_call 14; (with_reducible refine (lives_any _).mono ?_); rintro e w' ⟨rfl, hg⟩))
          go_ret
          exact ⟨rfl, by repeat (first | (with_reducible exact Grown.refl _) | (with_reducible assumption) | (with_reducible refine Grown.drewN ?_ _) | (with_reducible refine Grown.trans ?_ (by with_reducible assumption)))⟩
  · clear hsp
    obtain ⟨y0, y2, y4⟩ := K1.out rfl
    have Sw := Sw1
    go_enter Try.func9, Try.ntmps9
    go_wp2_with (first | (go_at_call 21; (with_reducible refine (small_any _ _).mono ?_); (first | rw [Sn.out] | rw [Sm.out] | rw [Sw.out]); rintro e w' ⟨rfl, rfl⟩) | (go_at_call 27; (with_reducible refine (value_any _ _).mono ?_); (try rw [Vn.out]); rintro e w' ⟨rfl, rfl⟩) | (go_at_call 25; (with_reducible refine (isSmall_any _ _).mono ?_); (first | rw [In.out] | rw [Iw.out]); rintro e w' ⟨rfl, rfl⟩) | (go_at_call 23; (with_reducible refine (pointer_any _ _).mono ?_); rw [Pn.out]; rintro e w' ⟨rfl, rfl⟩) | (go_at_call 31; (with_reducible refine (address_any _ _).mono ?_); rw [An.out]; rintro e w' ⟨rfl, rfl⟩) | (go_at_call 29; (with_reducible refine (isPointer_any _ _).mono ?_); (first | rw [Jn.out] | rw [Jw.out]); rintro e w' ⟨rfl, rfl⟩) | (go_at_call 14; (with_reducible refine (lives_any _).mono ?_); rintro e w' ⟨rfl, hg⟩))
    go_ret
    exact ⟨rfl, by repeat (first | (with_reducible exact Grown.refl _) | (with_reducible assumption) | (with_reducible refine Grown.drewN ?_ _) | (with_reducible refine Grown.trans ?_ (by with_reducible assumption)))⟩
  · clear hsp
    obtain ⟨y0, y2, y4⟩ := K1.out rfl
    have Sw := Lib.hid (Sw1.out rfl)
    go_enter Try.func9, Try.ntmps9
    go_wp2_with (first | (go_at_call 21; (with_reducible refine (small_any _ _).mono ?_); (first | rw [Sn.out] | rw [Sm.out] | rw [Sw.out]); rintro e w' ⟨rfl, rfl⟩) | (go_at_call 27; (with_reducible refine (value_any _ _).mono ?_); (try rw [Vn.out]); rintro e w' ⟨rfl, rfl⟩) | (go_at_call 25; (with_reducible refine (isSmall_any _ _).mono ?_); (first | rw [In.out] | rw [Iw.out]); rintro e w' ⟨rfl, rfl⟩) | (go_at_call 23; (with_reducible refine (pointer_any _ _).mono ?_); rw [Pn.out]; rintro e w' ⟨rfl, rfl⟩) | (go_at_call 31; (with_reducible refine (address_any _ _).mono ?_); rw [An.out]; rintro e w' ⟨rfl, rfl⟩) | (go_at_call 29; (with_reducible refine (isPointer_any _ _).mono ?_); (first | rw [Jn.out] | rw [Jw.out]); rintro e w' ⟨rfl, rfl⟩) | (go_at_call 14; (with_reducible refine (lives_any _).mono ?_); rintro e w' ⟨rfl, hg⟩))
    go_ret
    exact ⟨rfl, by repeat (first | (with_reducible exact Grown.refl _) | (with_reducible assumption) | (with_reducible refine Grown.drewN ?_ _) | (with_reducible refine Grown.trans ?_ (by with_reducible assumption)))⟩

set_option maxHeartbeats 4000000 in
theorem apart_dt (n m v : Int) (w : World) (hn : -1073741824 ≤ n ∧ n ≤ 1073741823) (hm : -1073741824 ≤ m ∧ m ≤ 1073741823) (hne : ¬ n = m) (hp : 3 ≤ n ∧ n ≤ 131072) :
    Calls Try.prog 9 #[.int .i64 n, .int .i64 m, .int .i64 v] w fun e w' => e = .returned (.bool true) ∧ Grown w w' := by
  obtain ⟨Pn0, An0, Jn0⟩ := pointer_facts n hp
  have Pn := Lib.hid Pn0; have An := Lib.hid An0; have Jn := Lib.hid Jn0
  clear Pn0 An0 Jn0 hp
  obtain ⟨Sn0, Vn0, In0⟩ := small_facts n hn
  have Sn := Lib.hid Sn0; have Vn := Lib.hid Vn0; have In := Lib.hid In0
  have Sm := Lib.hid (small_facts m hm).1
  clear Sn0 Vn0 In0 hn hm
  have e1 : (n == m) = false := by simpa using hne
  have e2 : (2 * n + 1 == 2 * m + 1) = false := by simp; omega
  clear hne
  obtain ⟨s, p, ⟨Iw0, Jw0, Sw0, K0⟩, hsp⟩ := wcase v
  have Iw := Lib.hid Iw0; have Jw := Lib.hid Jw0; have Sw1 := Lib.hid Sw0; have K1 := Lib.hid K0
  clear Iw0 Jw0 Sw0 K0
  cases s <;> cases p <;> (try (exact absurd hsp (by decide)))
  · clear hsp
    have Sw := Sw1
    by_cases z0 : v = 0
    · subst z0
      go_enter Try.func9, Try.ntmps9
      go_wp2_with (first | (go_at_call 21; (with_reducible refine (small_any _ _).mono ?_); (first | rw [Sn.out] | rw [Sm.out] | rw [Sw.out]); rintro e w' ⟨rfl, rfl⟩) | (go_at_call 27; (with_reducible refine (value_any _ _).mono ?_); (try rw [Vn.out]); rintro e w' ⟨rfl, rfl⟩) | (go_at_call 25; (with_reducible refine (isSmall_any _ _).mono ?_); (first | rw [In.out] | rw [Iw.out]); rintro e w' ⟨rfl, rfl⟩) | (go_at_call 23; (with_reducible refine (pointer_any _ _).mono ?_); rw [Pn.out]; rintro e w' ⟨rfl, rfl⟩) | (go_at_call 31; (with_reducible refine (address_any _ _).mono ?_); rw [An.out]; rintro e w' ⟨rfl, rfl⟩) | (go_at_call 29; (with_reducible refine (isPointer_any _ _).mono ?_); (first | rw [Jn.out] | rw [Jw.out]); rintro e w' ⟨rfl, rfl⟩) | (go_at_call 14; (with_reducible refine (lives_any _).mono ?_); rintro e w' ⟨rfl, hg⟩))
      go_ret
      exact ⟨rfl, by repeat (first | (with_reducible exact Grown.refl _) | (with_reducible assumption) | (with_reducible refine Grown.drewN ?_ _) | (with_reducible refine Grown.trans ?_ (by with_reducible assumption)))⟩
    · by_cases z2 : v = 2
      · subst z2
        go_enter Try.func9, Try.ntmps9
        go_wp2_with (first | (go_at_call 21; (with_reducible refine (small_any _ _).mono ?_); (first | rw [Sn.out] | rw [Sm.out] | rw [Sw.out]); rintro e w' ⟨rfl, rfl⟩) | (go_at_call 27; (with_reducible refine (value_any _ _).mono ?_); (try rw [Vn.out]); rintro e w' ⟨rfl, rfl⟩) | (go_at_call 25; (with_reducible refine (isSmall_any _ _).mono ?_); (first | rw [In.out] | rw [Iw.out]); rintro e w' ⟨rfl, rfl⟩) | (go_at_call 23; (with_reducible refine (pointer_any _ _).mono ?_); rw [Pn.out]; rintro e w' ⟨rfl, rfl⟩) | (go_at_call 31; (with_reducible refine (address_any _ _).mono ?_); rw [An.out]; rintro e w' ⟨rfl, rfl⟩) | (go_at_call 29; (with_reducible refine (isPointer_any _ _).mono ?_); (first | rw [Jn.out] | rw [Jw.out]); rintro e w' ⟨rfl, rfl⟩) | (go_at_call 14; (with_reducible refine (lives_any _).mono ?_); rintro e w' ⟨rfl, hg⟩))
        go_ret
        exact ⟨rfl, by repeat (first | (with_reducible exact Grown.refl _) | (with_reducible assumption) | (with_reducible refine Grown.drewN ?_ _) | (with_reducible refine Grown.trans ?_ (by with_reducible assumption)))⟩
      · by_cases z4 : v = 4
        · subst z4
          go_enter Try.func9, Try.ntmps9
          go_wp2_with (first | (go_at_call 21; (with_reducible refine (small_any _ _).mono ?_); (first | rw [Sn.out] | rw [Sm.out] | rw [Sw.out]); rintro e w' ⟨rfl, rfl⟩) | (go_at_call 27; (with_reducible refine (value_any _ _).mono ?_); (try rw [Vn.out]); rintro e w' ⟨rfl, rfl⟩) | (go_at_call 25; (with_reducible refine (isSmall_any _ _).mono ?_); (first | rw [In.out] | rw [Iw.out]); rintro e w' ⟨rfl, rfl⟩) | (go_at_call 23; (with_reducible refine (pointer_any _ _).mono ?_); rw [Pn.out]; rintro e w' ⟨rfl, rfl⟩) | (go_at_call 31; (with_reducible refine (address_any _ _).mono ?_); rw [An.out]; rintro e w' ⟨rfl, rfl⟩) | (go_at_call 29; (with_reducible refine (isPointer_any _ _).mono ?_); (first | rw [Jn.out] | rw [Jw.out]); rintro e w' ⟨rfl, rfl⟩) | (go_at_call 14; (with_reducible refine (lives_any _).mono ?_); rintro e w' ⟨rfl, hg⟩))
          go_ret
          exact ⟨rfl, by repeat (first | (with_reducible exact Grown.refl _) | (with_reducible assumption) | (with_reducible refine Grown.drewN ?_ _) | (with_reducible refine Grown.trans ?_ (by with_reducible assumption)))⟩
        · have y0 : (v == 0) = false := by simpa using z0
          have y2 : (v == 2) = false := by simpa using z2
          have y4 : (v == 4) = false := by simpa using z4
          clear z0 z2 z4
          go_enter Try.func9, Try.ntmps9
          go_wp2_with (first | (go_at_call 21; (with_reducible refine (small_any _ _).mono ?_); (first | rw [Sn.out] | rw [Sm.out] | rw [Sw.out]); rintro e w' ⟨rfl, rfl⟩) | (go_at_call 27; (with_reducible refine (value_any _ _).mono ?_); (try rw [Vn.out]); rintro e w' ⟨rfl, rfl⟩) | (go_at_call 25; (with_reducible refine (isSmall_any _ _).mono ?_); (first | rw [In.out] | rw [Iw.out]); rintro e w' ⟨rfl, rfl⟩) | (go_at_call 23; (with_reducible refine (pointer_any _ _).mono ?_); rw [Pn.out]; rintro e w' ⟨rfl, rfl⟩) | (go_at_call 31; (with_reducible refine (address_any _ _).mono ?_); rw [An.out]; rintro e w' ⟨rfl, rfl⟩) | (go_at_call 29; (with_reducible refine (isPointer_any _ _).mono ?_); (first | rw [Jn.out] | rw [Jw.out]); rintro e w' ⟨rfl, rfl⟩) | (go_at_call 14; (with_reducible refine (lives_any _).mono ?_); rintro e w' ⟨rfl, hg⟩))
          go_ret
          exact ⟨rfl, by repeat (first | (with_reducible exact Grown.refl _) | (with_reducible assumption) | (with_reducible refine Grown.drewN ?_ _) | (with_reducible refine Grown.trans ?_ (by with_reducible assumption)))⟩
  · clear hsp
    obtain ⟨y0, y2, y4⟩ := K1.out rfl
    have Sw := Sw1
    go_enter Try.func9, Try.ntmps9
    go_wp2_with (first | (go_at_call 21; (with_reducible refine (small_any _ _).mono ?_); (first | rw [Sn.out] | rw [Sm.out] | rw [Sw.out]); rintro e w' ⟨rfl, rfl⟩) | (go_at_call 27; (with_reducible refine (value_any _ _).mono ?_); (try rw [Vn.out]); rintro e w' ⟨rfl, rfl⟩) | (go_at_call 25; (with_reducible refine (isSmall_any _ _).mono ?_); (first | rw [In.out] | rw [Iw.out]); rintro e w' ⟨rfl, rfl⟩) | (go_at_call 23; (with_reducible refine (pointer_any _ _).mono ?_); rw [Pn.out]; rintro e w' ⟨rfl, rfl⟩) | (go_at_call 31; (with_reducible refine (address_any _ _).mono ?_); rw [An.out]; rintro e w' ⟨rfl, rfl⟩) | (go_at_call 29; (with_reducible refine (isPointer_any _ _).mono ?_); (first | rw [Jn.out] | rw [Jw.out]); rintro e w' ⟨rfl, rfl⟩) | (go_at_call 14; (with_reducible refine (lives_any _).mono ?_); rintro e w' ⟨rfl, hg⟩))
    go_ret
    exact ⟨rfl, by repeat (first | (with_reducible exact Grown.refl _) | (with_reducible assumption) | (with_reducible refine Grown.drewN ?_ _) | (with_reducible refine Grown.trans ?_ (by with_reducible assumption)))⟩
  · clear hsp
    obtain ⟨y0, y2, y4⟩ := K1.out rfl
    have Sw := Lib.hid (Sw1.out rfl)
    go_enter Try.func9, Try.ntmps9
    go_wp2_with (first | (go_at_call 21; (with_reducible refine (small_any _ _).mono ?_); (first | rw [Sn.out] | rw [Sm.out] | rw [Sw.out]); rintro e w' ⟨rfl, rfl⟩) | (go_at_call 27; (with_reducible refine (value_any _ _).mono ?_); (try rw [Vn.out]); rintro e w' ⟨rfl, rfl⟩) | (go_at_call 25; (with_reducible refine (isSmall_any _ _).mono ?_); (first | rw [In.out] | rw [Iw.out]); rintro e w' ⟨rfl, rfl⟩) | (go_at_call 23; (with_reducible refine (pointer_any _ _).mono ?_); rw [Pn.out]; rintro e w' ⟨rfl, rfl⟩) | (go_at_call 31; (with_reducible refine (address_any _ _).mono ?_); rw [An.out]; rintro e w' ⟨rfl, rfl⟩) | (go_at_call 29; (with_reducible refine (isPointer_any _ _).mono ?_); (first | rw [Jn.out] | rw [Jw.out]); rintro e w' ⟨rfl, rfl⟩) | (go_at_call 14; (with_reducible refine (lives_any _).mono ?_); rintro e w' ⟨rfl, hg⟩))
    go_ret
    exact ⟨rfl, by repeat (first | (with_reducible exact Grown.refl _) | (with_reducible assumption) | (with_reducible refine Grown.drewN ?_ _) | (with_reducible refine Grown.trans ?_ (by with_reducible assumption)))⟩

set_option maxHeartbeats 4000000 in
theorem apart_df (n m v : Int) (w : World) (hn : -1073741824 ≤ n ∧ n ≤ 1073741823) (hm : -1073741824 ≤ m ∧ m ≤ 1073741823) (hne : ¬ n = m) (hp : ¬ (3 ≤ n ∧ n ≤ 131072)) :
    Calls Try.prog 9 #[.int .i64 n, .int .i64 m, .int .i64 v] w fun e w' => e = .returned (.bool true) ∧ Grown w w' := by
  have Pn : Hid (pointerV n = (0, false)) := if_neg hp
  have An : Hid (n = n) := rfl
  have Jn : Hid (n = n) := rfl
  clear hp
  obtain ⟨Sn0, Vn0, In0⟩ := small_facts n hn
  have Sn := Lib.hid Sn0; have Vn := Lib.hid Vn0; have In := Lib.hid In0
  have Sm := Lib.hid (small_facts m hm).1
  clear Sn0 Vn0 In0 hn hm
  have e1 : (n == m) = false := by simpa using hne
  have e2 : (2 * n + 1 == 2 * m + 1) = false := by simp; omega
  clear hne
  obtain ⟨s, p, ⟨Iw0, Jw0, Sw0, K0⟩, hsp⟩ := wcase v
  have Iw := Lib.hid Iw0; have Jw := Lib.hid Jw0; have Sw1 := Lib.hid Sw0; have K1 := Lib.hid K0
  clear Iw0 Jw0 Sw0 K0
  cases s <;> cases p <;> (try (exact absurd hsp (by decide)))
  · clear hsp
    have Sw := Sw1
    by_cases z0 : v = 0
    · subst z0
      go_enter Try.func9, Try.ntmps9
      go_wp2_with (first | (go_at_call 21; (with_reducible refine (small_any _ _).mono ?_); (first | rw [Sn.out] | rw [Sm.out] | rw [Sw.out]); rintro e w' ⟨rfl, rfl⟩) | (go_at_call 27; (with_reducible refine (value_any _ _).mono ?_); (try rw [Vn.out]); rintro e w' ⟨rfl, rfl⟩) | (go_at_call 25; (with_reducible refine (isSmall_any _ _).mono ?_); (first | rw [In.out] | rw [Iw.out]); rintro e w' ⟨rfl, rfl⟩) | (go_at_call 23; (with_reducible refine (pointer_any _ _).mono ?_); rw [Pn.out]; rintro e w' ⟨rfl, rfl⟩) | (go_at_call 31; (with_reducible refine (address_any _ _).mono ?_); rw [An.out]; rintro e w' ⟨rfl, rfl⟩) | (go_at_call 29; (with_reducible refine (isPointer_any _ _).mono ?_); (first | rw [Jn.out] | rw [Jw.out]); rintro e w' ⟨rfl, rfl⟩) | (go_at_call 14; (with_reducible refine (lives_any _).mono ?_); rintro e w' ⟨rfl, hg⟩))
      go_ret
      exact ⟨rfl, by repeat (first | (with_reducible exact Grown.refl _) | (with_reducible assumption) | (with_reducible refine Grown.drewN ?_ _) | (with_reducible refine Grown.trans ?_ (by with_reducible assumption)))⟩
    · by_cases z2 : v = 2
      · subst z2
        go_enter Try.func9, Try.ntmps9
        go_wp2_with (first | (go_at_call 21; (with_reducible refine (small_any _ _).mono ?_); (first | rw [Sn.out] | rw [Sm.out] | rw [Sw.out]); rintro e w' ⟨rfl, rfl⟩) | (go_at_call 27; (with_reducible refine (value_any _ _).mono ?_); (try rw [Vn.out]); rintro e w' ⟨rfl, rfl⟩) | (go_at_call 25; (with_reducible refine (isSmall_any _ _).mono ?_); (first | rw [In.out] | rw [Iw.out]); rintro e w' ⟨rfl, rfl⟩) | (go_at_call 23; (with_reducible refine (pointer_any _ _).mono ?_); rw [Pn.out]; rintro e w' ⟨rfl, rfl⟩) | (go_at_call 31; (with_reducible refine (address_any _ _).mono ?_); rw [An.out]; rintro e w' ⟨rfl, rfl⟩) | (go_at_call 29; (with_reducible refine (isPointer_any _ _).mono ?_); (first | rw [Jn.out] | rw [Jw.out]); rintro e w' ⟨rfl, rfl⟩) | (go_at_call 14; (with_reducible refine (lives_any _).mono ?_); rintro e w' ⟨rfl, hg⟩))
        go_ret
        exact ⟨rfl, by repeat (first | (with_reducible exact Grown.refl _) | (with_reducible assumption) | (with_reducible refine Grown.drewN ?_ _) | (with_reducible refine Grown.trans ?_ (by with_reducible assumption)))⟩
      · by_cases z4 : v = 4
        · subst z4
          go_enter Try.func9, Try.ntmps9
          go_wp2_with (first | (go_at_call 21; (with_reducible refine (small_any _ _).mono ?_); (first | rw [Sn.out] | rw [Sm.out] | rw [Sw.out]); rintro e w' ⟨rfl, rfl⟩) | (go_at_call 27; (with_reducible refine (value_any _ _).mono ?_); (try rw [Vn.out]); rintro e w' ⟨rfl, rfl⟩) | (go_at_call 25; (with_reducible refine (isSmall_any _ _).mono ?_); (first | rw [In.out] | rw [Iw.out]); rintro e w' ⟨rfl, rfl⟩) | (go_at_call 23; (with_reducible refine (pointer_any _ _).mono ?_); rw [Pn.out]; rintro e w' ⟨rfl, rfl⟩) | (go_at_call 31; (with_reducible refine (address_any _ _).mono ?_); rw [An.out]; rintro e w' ⟨rfl, rfl⟩) | (go_at_call 29; (with_reducible refine (isPointer_any _ _).mono ?_); (first | rw [Jn.out] | rw [Jw.out]); rintro e w' ⟨rfl, rfl⟩) | (go_at_call 14; (with_reducible refine (lives_any _).mono ?_); rintro e w' ⟨rfl, hg⟩))
          go_ret
          exact ⟨rfl, by repeat (first | (with_reducible exact Grown.refl _) | (with_reducible assumption) | (with_reducible refine Grown.drewN ?_ _) | (with_reducible refine Grown.trans ?_ (by with_reducible assumption)))⟩
        · have y0 : (v == 0) = false := by simpa using z0
          have y2 : (v == 2) = false := by simpa using z2
          have y4 : (v == 4) = false := by simpa using z4
          clear z0 z2 z4
          go_enter Try.func9, Try.ntmps9
          go_wp2_with (first | (go_at_call 21; (with_reducible refine (small_any _ _).mono ?_); (first | rw [Sn.out] | rw [Sm.out] | rw [Sw.out]); rintro e w' ⟨rfl, rfl⟩) | (go_at_call 27; (with_reducible refine (value_any _ _).mono ?_); (try rw [Vn.out]); rintro e w' ⟨rfl, rfl⟩) | (go_at_call 25; (with_reducible refine (isSmall_any _ _).mono ?_); (first | rw [In.out] | rw [Iw.out]); rintro e w' ⟨rfl, rfl⟩) | (go_at_call 23; (with_reducible refine (pointer_any _ _).mono ?_); rw [Pn.out]; rintro e w' ⟨rfl, rfl⟩) | (go_at_call 31; (with_reducible refine (address_any _ _).mono ?_); rw [An.out]; rintro e w' ⟨rfl, rfl⟩) | (go_at_call 29; (with_reducible refine (isPointer_any _ _).mono ?_); (first | rw [Jn.out] | rw [Jw.out]); rintro e w' ⟨rfl, rfl⟩) | (go_at_call 14; (with_reducible refine (lives_any _).mono ?_); rintro e w' ⟨rfl, hg⟩))
          go_ret
          exact ⟨rfl, by repeat (first | (with_reducible exact Grown.refl _) | (with_reducible assumption) | (with_reducible refine Grown.drewN ?_ _) | (with_reducible refine Grown.trans ?_ (by with_reducible assumption)))⟩
  · clear hsp
    obtain ⟨y0, y2, y4⟩ := K1.out rfl
    have Sw := Sw1
    go_enter Try.func9, Try.ntmps9
    go_wp2_with (first | (go_at_call 21; (with_reducible refine (small_any _ _).mono ?_); (first | rw [Sn.out] | rw [Sm.out] | rw [Sw.out]); rintro e w' ⟨rfl, rfl⟩) | (go_at_call 27; (with_reducible refine (value_any _ _).mono ?_); (try rw [Vn.out]); rintro e w' ⟨rfl, rfl⟩) | (go_at_call 25; (with_reducible refine (isSmall_any _ _).mono ?_); (first | rw [In.out] | rw [Iw.out]); rintro e w' ⟨rfl, rfl⟩) | (go_at_call 23; (with_reducible refine (pointer_any _ _).mono ?_); rw [Pn.out]; rintro e w' ⟨rfl, rfl⟩) | (go_at_call 31; (with_reducible refine (address_any _ _).mono ?_); rw [An.out]; rintro e w' ⟨rfl, rfl⟩) | (go_at_call 29; (with_reducible refine (isPointer_any _ _).mono ?_); (first | rw [Jn.out] | rw [Jw.out]); rintro e w' ⟨rfl, rfl⟩) | (go_at_call 14; (with_reducible refine (lives_any _).mono ?_); rintro e w' ⟨rfl, hg⟩))
    go_ret
    exact ⟨rfl, by repeat (first | (with_reducible exact Grown.refl _) | (with_reducible assumption) | (with_reducible refine Grown.drewN ?_ _) | (with_reducible refine Grown.trans ?_ (by with_reducible assumption)))⟩
  · clear hsp
    obtain ⟨y0, y2, y4⟩ := K1.out rfl
    have Sw := Lib.hid (Sw1.out rfl)
    go_enter Try.func9, Try.ntmps9
    go_wp2_with (first | (go_at_call 21; (with_reducible refine (small_any _ _).mono ?_); (first | rw [Sn.out] | rw [Sm.out] | rw [Sw.out]); rintro e w' ⟨rfl, rfl⟩) | (go_at_call 27; (with_reducible refine (value_any _ _).mono ?_); (try rw [Vn.out]); rintro e w' ⟨rfl, rfl⟩) | (go_at_call 25; (with_reducible refine (isSmall_any _ _).mono ?_); (first | rw [In.out] | rw [Iw.out]); rintro e w' ⟨rfl, rfl⟩) | (go_at_call 23; (with_reducible refine (pointer_any _ _).mono ?_); rw [Pn.out]; rintro e w' ⟨rfl, rfl⟩) | (go_at_call 31; (with_reducible refine (address_any _ _).mono ?_); rw [An.out]; rintro e w' ⟨rfl, rfl⟩) | (go_at_call 29; (with_reducible refine (isPointer_any _ _).mono ?_); (first | rw [Jn.out] | rw [Jw.out]); rintro e w' ⟨rfl, rfl⟩) | (go_at_call 14; (with_reducible refine (lives_any _).mono ?_); rintro e w' ⟨rfl, hg⟩))
    go_ret
    exact ⟨rfl, by repeat (first | (with_reducible exact Grown.refl _) | (with_reducible assumption) | (with_reducible refine Grown.drewN ?_ _) | (with_reducible refine Grown.trans ?_ (by with_reducible assumption)))⟩

theorem apart_any (n m v : Int) (w : World) :
    Calls Try.prog 9 #[.int .i64 n, .int .i64 m, .int .i64 v] w fun e w' => e = .returned (.bool true) ∧ Grown w w' := by
  by_cases hn : -1073741824 ≤ n ∧ n ≤ 1073741823
  · by_cases hp : 3 ≤ n ∧ n ≤ 131072
    · by_cases hm : -1073741824 ≤ m ∧ m ≤ 1073741823
      · by_cases he : n = m
        · exact apart_ct n m v w hn he hp
        · exact apart_dt n m v w hn hm he hp
      · exact apart_bt n m v w hn hm hp
    · by_cases hm : -1073741824 ≤ m ∧ m ≤ 1073741823
      · by_cases he : n = m
        · exact apart_cf n m v w hn he hp
        · exact apart_df n m v w hn hm he hp
      · exact apart_bf n m v w hn hm hp
  · have hp : ¬ (3 ≤ n ∧ n ≤ 131072) := by omega
    by_cases hm : -1073741824 ≤ m ∧ m ≤ 1073741823
    · exact apart_a1 n m v w hn hp hm
    · exact apart_a2 n m v w hn hp hm

end Go.Proofs.Ytnkfiebigfhilaa

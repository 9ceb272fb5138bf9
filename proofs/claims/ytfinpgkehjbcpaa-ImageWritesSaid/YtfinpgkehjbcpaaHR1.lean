/- Chapter 02: contracts of the memory's methods that only read. -/
import Derived.Test.YtfinpgkehjbcpaaHRep
namespace Go.Proofs.Ytfinpgkehjbcpaa
open Go.ChangeShapes Go.WideShapes Go.ChangeAt Go.RowKit
set_option linter.unusedVariables false
set_option linter.unusedSimpArgs false

set_option maxRecDepth 100000 in
set_option maxHeartbeats 8000000 in
theorem is_any {w : World} {s bw bm : Nat} {m : Hp} (h : PM w s bw bm m) (a : Int) : Calls Try.prog 70 #[.pointer (some ⟨s, 0, none⟩), .int .i64 a] w fun e w' => e = .returned (.bool (isV m.L a)) ∧ ∃ n, w' = w.drewN n := by
  have c3 := h.c3
  cases hp : isPointerV a
  · have hv : isV m.L a = false := by
      cases hv : isV m.L a
      · rfl
      · rw [isV_pointer h.good hv] at hp; cases hp
    have HV := Lib.hid hv
    have hip : ∀ w', Calls Try.prog 78 #[.int .i64 a] w' fun e w'' => e = .returned (.bool false) ∧ w'' = w' := fun w' => by have := isPointer_any a w'; rw [hp] at this; exact this
    have HIP := Lib.hid hip
    clear hv hp hip h
    go_enter Try.func70, Try.ntmps70
    go_wp2_with fail
    go_quiet ((go_at_call 78; exact Calls.quiet_of_same (HIP.out _)))
    go_wp2_with fail
    go_ret
    refine ⟨?_, _, rfl⟩
    rw [HV.out]; rfl
  · have hip : ∀ w', Calls Try.prog 78 #[.int .i64 a] w' fun e w'' => e = .returned (.bool true) ∧ w'' = w' := fun w' => by have := isPointer_any a w'; rw [hp] at this; exact this
    have hlk : ∀ n, (Instr.lookup 94 (.map (some bm)) (.int .i64 (addressV a)) false).run Try.prog (w.drewN n) = .ok (.bool (isV m.L a)) (w.drewN n) := fun n => (h.drewN n).look hp
    have HIP := Lib.hid hip
    obtain ⟨v, hv⟩ : ∃ v, isV m.L a = v := ⟨_, rfl⟩
    rw [hv] at hlk ⊢
    obtain ⟨ad, had'⟩ : ∃ ad, addressV a = ad := ⟨_, rfl⟩
    rw [had'] at hlk
    have had : ∀ w', Calls Try.prog 93 #[.int .i64 a] w' fun e w'' => e = .returned (.int .i64 ad) ∧ w'' = w' := fun w' => by have := address_any a w'; rw [had'] at this; exact this
    have HAD := Lib.hid had
    clear hv hp hip had h had'
    go_enter Try.func70, Try.ntmps70
    go_wp2_with fail
    go_quiet ((first | (go_at_call 78; exact Calls.quiet_of_same (HIP.out _)) | (go_at_call 93; exact Calls.quiet_of_same (HAD.out _))))
    go_wp2_with fail
    go_ret
    exact ⟨rfl, _, rfl⟩

set_option maxRecDepth 100000 in
set_option maxHeartbeats 8000000 in
theorem at_any {w : World} {s bw bm : Nat} {m : Hp} (h : PM w s bw bm m) (a : Int) : Calls Try.prog 66 #[.pointer (some ⟨s, 0, none⟩), .int .i64 a] w fun e w' => e = .returned (.int .i64 (atN m.L a : Int)) ∧ ∃ n, w' = w.drewN n := by
  cases hv : isV m.L a
  · have HV := Lib.hid hv
    have HA : Hid (atN m.L a = 0) := (atN_no hv).1
    clear hv
    go_enter Try.func66, Try.ntmps66
    go_wp2_with (go_at_call 70; (with_reducible refine (is_any h a).mono ?_); rw [HV.out]; rintro e w1 ⟨rfl, n1, rfl⟩)
    go_ret
    exact ⟨by rw [HA.out]; rfl, _, rfl⟩
  · have HV := Lib.hid hv
    have HA : Hid (addressV a = (atN m.L a : Int)) := by
      obtain ⟨i, hi, _, e, e1, _⟩ := atN_yes hv
      show _ = _
      rw [address_of (isV_pointer h.good hv), e1, e]; unfold ptr; omega
    clear hv
    go_enter Try.func66, Try.ntmps66
    go_wp2_with (first | (go_at_call 70; (with_reducible refine (is_any h a).mono ?_); rw [HV.out]; rintro e w1 ⟨rfl, n1, rfl⟩) | (go_at_call 93; (with_reducible refine (address_any a _).mono ?_); rw [HA.out]; rintro e w2 ⟨rfl, rfl⟩))
    go_ret
    exact ⟨rfl, _, rfl⟩

set_option maxRecDepth 100000 in
set_option maxHeartbeats 8000000 in
theorem class_any {w : World} {s bw bm : Nat} {m : Hp} (h : PM w s bw bm m) (a : Int) : Calls Try.prog 56 #[.pointer (some ⟨s, 0, none⟩), .int .i64 a] w fun e w' => e = .returned (.int .i64 (lookO m.L a).cls) ∧ ∃ n, w' = w.drewN n := by
  have c0 := h.c0
  obtain ⟨hc, hlt⟩ := h.head a (show 1 < 3 by decide)
  obtain ⟨t, ht⟩ : ∃ t, atN m.L a = t := ⟨_, rfl⟩
  have HT := Lib.hid ht
  have hsz := h.good.hi
  have hff := look_fmt h.good a
  rw [ht] at hc hlt
  obtain ⟨x, hx⟩ : ∃ x, (encO (lookO m.L a)).getD 1 0 = x := ⟨_, rfl⟩
  have HX := Lib.hid hx
  rw [hx] at hc
  have g0 : (0 : Int) ≤ (t : Int) + 1 := by omega
  have g1 : (t : Int) + 1 < (m.size : Int) := by omega
  have hand := and_3 x

  
  clear hx ht hff
  have hat : ∀ n, Calls Try.prog 66 #[.pointer (some ⟨s, 0, none⟩), .int .i64 a] (w.drewN n) fun e w' => e = .returned (.int .i64 (t : Int)) ∧ ∃ k, w' = (w.drewN n).drewN k := fun n => by have := at_any (h.drewN n) a; rw [HT.out] at this; exact this
  have HAT := Lib.hid hat
  have hwr : IntKind.i64.wrap ((t : Int) + 1) = (t : Int) + 1 := by rw [IntKind.wrap_i64]; omega
  clear hat h
  go_enter Try.func56, Try.ntmps56
  go_wp2_with fail
  go_quiet ((go_at_call 66; exact Calls.quiet_of (HAT.out _)))
  go_wp2_with fail
  go_ret
  exact ⟨ret_int (HX.out.symm), _, rfl⟩

set_option maxRecDepth 100000 in
set_option maxHeartbeats 8000000 in
theorem hash_any {w : World} {s bw bm : Nat} {m : Hp} (h : PM w s bw bm m) (a : Int) : Calls Try.prog 58 #[.pointer (some ⟨s, 0, none⟩), .int .i64 a] w fun e w' => e = .returned (.int .i64 (lookO m.L a).hash) ∧ ∃ n, w' = w.drewN n := by
  have c0 := h.c0
  obtain ⟨hc, hlt⟩ := h.head a (show 2 < 3 by decide)
  obtain ⟨t, ht⟩ : ∃ t, atN m.L a = t := ⟨_, rfl⟩
  have HT := Lib.hid ht
  have hsz := h.good.hi
  have hff := look_fmt h.good a
  rw [ht] at hc hlt
  obtain ⟨x, hx⟩ : ∃ x, (encO (lookO m.L a)).getD 2 0 = x := ⟨_, rfl⟩
  have HX := Lib.hid hx
  rw [hx] at hc
  have g0 : (0 : Int) ≤ (t : Int) + 2 := by omega
  have g1 : (t : Int) + 2 < (m.size : Int) := by omega
  have hand := and_3 x

  
  clear hx ht hff
  have hat : ∀ n, Calls Try.prog 66 #[.pointer (some ⟨s, 0, none⟩), .int .i64 a] (w.drewN n) fun e w' => e = .returned (.int .i64 (t : Int)) ∧ ∃ k, w' = (w.drewN n).drewN k := fun n => by have := at_any (h.drewN n) a; rw [HT.out] at this; exact this
  have HAT := Lib.hid hat
  have hwr : IntKind.i64.wrap ((t : Int) + 2) = (t : Int) + 2 := by rw [IntKind.wrap_i64]; omega
  clear hat h
  go_enter Try.func58, Try.ntmps58
  go_wp2_with fail
  go_quiet ((go_at_call 66; exact Calls.quiet_of (HAT.out _)))
  go_wp2_with fail
  go_ret
  exact ⟨ret_int (HX.out.symm), _, rfl⟩

set_option maxRecDepth 100000 in
set_option maxHeartbeats 8000000 in
theorem format_any {w : World} {s bw bm : Nat} {m : Hp} (h : PM w s bw bm m) (a : Int) : Calls Try.prog 57 #[.pointer (some ⟨s, 0, none⟩), .int .i64 a] w fun e w' => e = .returned (.int .i64 (lookO m.L a).fmt) ∧ ∃ n, w' = w.drewN n := by
  have c0 := h.c0
  obtain ⟨hc, hlt⟩ := h.head a (show 0 < 3 by decide)
  obtain ⟨t, ht⟩ : ∃ t, atN m.L a = t := ⟨_, rfl⟩
  have HT := Lib.hid ht
  have hsz := h.good.hi
  have hff := look_fmt h.good a
  rw [ht] at hc hlt
  obtain ⟨x, hx⟩ : ∃ x, (encO (lookO m.L a)).getD 0 0 = x := ⟨_, rfl⟩
  have HX := Lib.hid hx
  rw [hx] at hc
  have g0 : (0 : Int) ≤ (t : Int) := by omega
  have g1 : (t : Int) < (m.size : Int) := by omega
  have hand := and_3 x
  have HR : Hid (x % 4 = (lookO m.L a).fmt) := by show _ = _; rw [← hx]; show (4 * ((lookO m.L a).F.length : Int) + (lookO m.L a).fmt) % 4 = _; omega
  rw [Nat.add_zero] at hc
  clear hx ht hff
  have hat : ∀ n, Calls Try.prog 66 #[.pointer (some ⟨s, 0, none⟩), .int .i64 a] (w.drewN n) fun e w' => e = .returned (.int .i64 (t : Int)) ∧ ∃ k, w' = (w.drewN n).drewN k := fun n => by have := at_any (h.drewN n) a; rw [HT.out] at this; exact this
  have HAT := Lib.hid hat
  have hwr : IntKind.i64.wrap ((t : Int)) = (t : Int) := by rw [IntKind.wrap_i64]; omega
  clear hat h
  go_enter Try.func57, Try.ntmps57
  go_wp2_with fail
  go_quiet ((go_at_call 66; exact Calls.quiet_of (HAT.out _)))
  go_wp2_with fail
  go_ret
  exact ⟨ret_int (HR.out), _, rfl⟩

set_option maxRecDepth 100000 in
set_option maxHeartbeats 8000000 in
theorem fields_any {w : World} {s bw bm : Nat} {m : Hp} (h : PM w s bw bm m) (a : Int) : Calls Try.prog 59 #[.pointer (some ⟨s, 0, none⟩), .int .i64 a] w fun e w' => e = .returned (.int .i64 ((lookO m.L a).F.length : Int)) ∧ ∃ n, w' = w.drewN n := by
  have c0 := h.c0
  obtain ⟨hc, hlt⟩ := h.head a (show 0 < 3 by decide)
  obtain ⟨t, ht⟩ : ∃ t, atN m.L a = t := ⟨_, rfl⟩
  have HT := Lib.hid ht
  have hsz := h.good.hi
  have hff := look_fmt h.good a
  rw [ht] at hc hlt
  obtain ⟨x, hx⟩ : ∃ x, (encO (lookO m.L a)).getD 0 0 = x := ⟨_, rfl⟩
  have HX := Lib.hid hx
  rw [hx] at hc
  have g0 : (0 : Int) ≤ (t : Int) := by omega
  have g1 : (t : Int) < (m.size : Int) := by omega
  have hand := and_3 x
  have HR : Hid (x / 4 = ((lookO m.L a).F.length : Int)) := by show _ = _; rw [← hx]; show (4 * ((lookO m.L a).F.length : Int) + (lookO m.L a).fmt) / 4 = _; omega
  rw [Nat.add_zero] at hc
  clear hx ht hff
  have hat : ∀ n, Calls Try.prog 66 #[.pointer (some ⟨s, 0, none⟩), .int .i64 a] (w.drewN n) fun e w' => e = .returned (.int .i64 (t : Int)) ∧ ∃ k, w' = (w.drewN n).drewN k := fun n => by have := at_any (h.drewN n) a; rw [HT.out] at this; exact this
  have HAT := Lib.hid hat
  have hwr : IntKind.i64.wrap ((t : Int)) = (t : Int) := by rw [IntKind.wrap_i64]; omega
  clear hat h
  go_enter Try.func59, Try.ntmps59
  go_wp2_with fail
  go_quiet ((go_at_call 66; exact Calls.quiet_of (HAT.out _)))
  go_wp2_with fail
  go_ret
  exact ⟨ret_int (HR.out), _, rfl⟩

set_option maxRecDepth 100000 in
set_option maxHeartbeats 8000000 in
theorem size_any {w : World} {s bw bm : Nat} {m : Hp} (h : PM w s bw bm m) : Calls Try.prog 55 #[.pointer (some ⟨s, 0, none⟩)] w fun e w' => e = .returned (.int .i64 (m.size : Int)) ∧ w' = w := by
  have c0 := h.c0
  have hsz := h.good.hi
  clear h
  go_enter Try.func55, Try.ntmps55
  go_wp2_with fail
  go_ret
  exact ⟨rfl, rfl⟩
theorem made_any {w : World} {s bw bm : Nat} {m : Hp} (h : PM w s bw bm m) : Calls Try.prog 38 #[.pointer (some ⟨s, 0, none⟩)] w fun e w' => e = .returned (.int .i64 (m.made : Int)) ∧ w' = w := by
  have c2 := h.c2
  clear h
  go_enter Try.func38, Try.ntmps38
  go_wp2_with fail
  go_ret
  exact ⟨rfl, rfl⟩
theorem room_any {w : World} {s bw bm : Nat} {m : Hp} (h : PM w s bw bm m) : Calls Try.prog 63 #[.pointer (some ⟨s, 0, none⟩)] w fun e w' => e = .returned (.int .i64 ((m.size : Int) - (adr m.L m.L.length : Int))) ∧ ∃ n, w' = w.drewN n := by
  have c0 := h.c0
  have c1 := h.c1
  have hsz := h.good.hi
  have ha := adr_bd h.good m.L.length
  obtain ⟨t, ht⟩ : ∃ t, adr m.L m.L.length = t := ⟨_, rfl⟩
  rw [ht] at c1 ha ⊢
  have hwr : IntKind.i64.wrap ((m.size : Int) - (t : Int)) = (m.size : Int) - (t : Int) := by rw [IntKind.wrap_i64]; omega
  clear h ht
  go_enter Try.func63, Try.ntmps63
  go_wp2_with fail
  go_quiet (fail)
  go_wp2_with fail
  go_ret
  exact ⟨rfl, _, rfl⟩
theorem may_any {w : World} {s bw bm : Nat} {m : Hp} (h : PM w s bw bm m) (a : Int) : Calls Try.prog 35 #[.pointer (some ⟨s, 0, none⟩), .int .i64 a] w fun e w' => e = .returned (.bool (mayV m.L a)) ∧ ∃ n, w' = w.drewN n := by
  by_cases h0 : a = 0
  · subst h0
    go_enter Try.func35, Try.ntmps35
    go_wp2_with fail
    go_ret
    exact ⟨rfl, 0, rfl⟩
  by_cases h2 : a = 2
  · subst h2
    go_enter Try.func35, Try.ntmps35
    go_wp2_with fail
    go_ret
    exact ⟨rfl, 0, rfl⟩
  by_cases h4 : a = 4
  · subst h4
    go_enter Try.func35, Try.ntmps35
    go_wp2_with fail
    go_ret
    exact ⟨rfl, 0, rfl⟩
  have e0 : (a == 0) = false := by simpa using h0
  have e2 : (a == 2) = false := by simpa using h2
  have e4 : (a == 4) = false := by simpa using h4
  cases hs : isSmallV a
  · have HS := Lib.hid hs
    have HM : Hid (mayV m.L a = isV m.L a) := by show _ = _; unfold mayV; rw [e0, e2, e4, hs]; rfl
    clear hs h0 h2 h4
    go_enter Try.func35, Try.ntmps35
    go_wp2_with (first | (go_at_call 69; (with_reducible refine (isSmall_any a _).mono ?_); rw [HS.out]; rintro e w1 ⟨rfl, rfl⟩) | (go_at_call 70; (with_reducible refine (is_any h a).mono ?_); rintro e w1 ⟨rfl, n1, rfl⟩))
    go_ret
    exact ⟨ret_bool HM.out.symm, _, rfl⟩
  · have HS := Lib.hid hs
    have HM : Hid (mayV m.L a = true) := by show _ = _; unfold mayV; rw [e0, e2, e4, hs]; rfl
    clear hs h0 h2 h4
    go_enter Try.func35, Try.ntmps35
    go_wp2_with (go_at_call 69; (with_reducible refine (isSmall_any a _).mono ?_); rw [HS.out]; rintro e w1 ⟨rfl, rfl⟩)
    go_ret
    exact ⟨ret_bool HM.out.symm, 0, rfl⟩

set_option maxRecDepth 100000 in
set_option maxHeartbeats 8000000 in
theorem field_any {w : World} {s bw bm : Nat} {m : Hp} (h : PM w s bw bm m) (a i : Int) (hi : InI i) : Calls Try.prog 67 #[.pointer (some ⟨s, 0, none⟩), .int .i64 a, .int .i64 i] w fun e w' => e = .returned (.tuple #[.int .i64 (fieldV m.L a i).1, .int .i64 (fieldV m.L a i).2]) ∧ ∃ n, w' = w.drewN n := by
  obtain ⟨t, ht⟩ : ∃ t, atN m.L a = t := ⟨_, rfl⟩
  have HT := Lib.hid ht
  obtain ⟨nf, hn⟩ : ∃ nf, (lookO m.L a).F.length = nf := ⟨_, rfl⟩
  have HN : Hid (((lookO m.L a).F.length : Int) = (nf : Int)) := by show _ = _; rw [hn]
  have hn3 := (look_fmt h.good a).2.2
  rw [hn] at hn3
  cases hv : isV m.L a
  · have HF : Hid (fieldV m.L a i = (0, 1)) := by show _ = _; unfold fieldV; rw [hv]; rfl
    obtain rfl : t = 0 := by rw [← ht]; exact (atN_no hv).1
    rw [HF.out]
    clear ht hn hv
    go_enter Try.func67, Try.ntmps67
    go_wp2_with (first | (go_at_call 66; (with_reducible refine (at_any h a).mono ?_); rw [HT.out]; rintro e w1 ⟨rfl, n1, rfl⟩; have h1 := h.drewN n1) | (go_at_call 59; (with_reducible refine (fields_any h1 a).mono ?_); rw [HN.out]; rintro e w2 ⟨rfl, n2, rfl⟩))
    go_ret2
    exact ⟨rfl, _, rfl⟩
  · have h3 := atN_pos (m := m) hv
    have hbt : t ≤ 131072 := by
      obtain ⟨i, hi, _, _, e1, _⟩ := atN_yes hv
      rw [← ht, e1]; exact (adr_bd h.good i).2
    rw [ht] at h3
    have e0 : ((t : Int) == 0) = false := by simp; omega
    unfold InI at hi
    obtain ⟨hi1, hi2⟩ := hi
    by_cases c1 : i < 0
    · have d1 : decide (i < 0) = true := decide_eq_true c1
      have HF : Hid (fieldV m.L a i = (0, 5)) := by show _ = _; unfold fieldV; rw [hv, if_pos rfl, if_pos (.inl c1)]
      rw [HF.out]
      clear ht hn hv
      go_enter Try.func67, Try.ntmps67
      go_wp2_with (first | (go_at_call 66; (with_reducible refine (at_any h a).mono ?_); rw [HT.out]; rintro e w1 ⟨rfl, n1, rfl⟩; have h1 := h.drewN n1) | (go_at_call 59; (with_reducible refine (fields_any h1 a).mono ?_); rw [HN.out]; rintro e w2 ⟨rfl, n2, rfl⟩))
      go_ret2
      exact ⟨rfl, _, rfl⟩
    · have d1 : decide (i < 0) = false := decide_eq_false c1
      by_cases c2 : (nf : Int) ≤ i
      · have d2 : decide ((nf : Int) ≤ i) = true := decide_eq_true c2
        have HF : Hid (fieldV m.L a i = (0, 5)) := by show _ = _; unfold fieldV; rw [hv, if_pos rfl, if_pos (.inr (by rw [hn]; exact c2))]
        rw [HF.out]
        clear ht hn hv
        go_enter Try.func67, Try.ntmps67
        go_wp2_with (first | (go_at_call 66; (with_reducible refine (at_any h a).mono ?_); rw [HT.out]; rintro e w1 ⟨rfl, n1, rfl⟩; have h1 := h.drewN n1) | (go_at_call 59; (with_reducible refine (fields_any h1 a).mono ?_); rw [HN.out]; rintro e w2 ⟨rfl, n2, rfl⟩))
        go_ret2
        exact ⟨rfl, _, rfl⟩
      · have d2 : decide ((nf : Int) ≤ i) = false := decide_eq_false c2
        have HF : Hid (fieldV m.L a i = ((t : Int) + 3 + i, 0)) := by show _ = _; unfold fieldV; rw [hv, if_pos rfl, if_neg (by rw [hn]; omega), ht]
        rw [HF.out]
        clear ht hn hv
        go_enter Try.func67, Try.ntmps67
        go_wp2_with (first | (go_at_call 66; (with_reducible refine (at_any h a).mono ?_); rw [HT.out]; rintro e w1 ⟨rfl, n1, rfl⟩; have h1 := h.drewN n1) | (go_at_call 59; (with_reducible refine (fields_any h1 a).mono ?_); rw [HN.out]; rintro e w2 ⟨rfl, n2, rfl⟩))
        go_ret2
        exact ⟨rfl, _, rfl⟩

set_option maxRecDepth 100000 in
set_option maxHeartbeats 8000000 in
theorem get_any {w : World} {s bw bm : Nat} {m : Hp} (h : PM w s bw bm m) (a i : Int) (hi : InI i) : Calls Try.prog 60 #[.pointer (some ⟨s, 0, none⟩), .int .i64 a, .int .i64 i] w fun e w' => e = .returned (.tuple #[.int .i64 (getV m.L a i).1, .int .i64 (getV m.L a i).2]) ∧ ∃ n, w' = w.drewN n := by
  cases hv : isV m.L a
  · have HF : Hid (fieldV m.L a i = (0, 1)) := by show _ = _; unfold fieldV; rw [hv]; rfl
    have HG : Hid (getV m.L a i = (0, 1)) := by show _ = _; unfold getV; rw [hv]; rfl
    rw [HG.out]
    clear hv
    go_enter Try.func60, Try.ntmps60
    go_wp2_with (go_at_call 67; (with_reducible refine (field_any h a i hi).mono ?_); rw [HF.out]; rintro e w1 ⟨rfl, n1, rfl⟩)
    go_ret2
    exact ⟨rfl, _, rfl⟩
  · by_cases c1 : i < 0 ∨ (lookO m.L a).F.length ≤ i
    · have HF : Hid (fieldV m.L a i = (0, 5)) := by show _ = _; unfold fieldV; rw [hv, if_pos rfl, if_pos c1]
      have HG : Hid (getV m.L a i = (0, 5)) := by show _ = _; unfold getV; rw [hv, if_pos rfl, if_pos c1]
      rw [HG.out]
      clear hv c1
      go_enter Try.func60, Try.ntmps60
      go_wp2_with (go_at_call 67; (with_reducible refine (field_any h a i hi).mono ?_); rw [HF.out]; rintro e w1 ⟨rfl, n1, rfl⟩)
      go_ret2
      exact ⟨rfl, _, rfl⟩
    · obtain ⟨j, rfl⟩ : ∃ j : Nat, i = (j : Int) := ⟨i.toNat, by omega⟩
      have hj : j < (lookO m.L a).F.length := by omega
      obtain ⟨hc, hlt⟩ := h.field hv hj
      obtain ⟨t, ht⟩ : ∃ t, atN m.L a = t := ⟨_, rfl⟩
      obtain ⟨x, hx⟩ : ∃ x, (lookO m.L a).F.getD j 0 = x := ⟨_, rfl⟩
      have HF : Hid (fieldV m.L a (j : Int) = ((t : Int) + 3 + (j : Int), 0)) := by show _ = _; unfold fieldV; rw [hv, if_pos rfl, if_neg c1, ht]
      have HG : Hid (getV m.L a (j : Int) = (x, 0)) := by show _ = _; unfold getV; rw [hv, if_pos rfl, if_neg c1, Int.toNat_natCast, hx]
      rw [HG.out]
      rw [ht, hx] at hc
      rw [ht] at hlt
      have c0 := h.c0
      have hsz := h.good.hi
      have g0 : (0 : Int) ≤ (t : Int) + 3 + (j : Int) := by omega
      have g1 : (t : Int) + 3 + (j : Int) < (m.size : Int) := by omega
      have g2 : ((t : Int) + 3 + (j : Int)).toNat = t + 3 + j := by omega
      clear hv c1 ht hx hj
      go_enter Try.func60, Try.ntmps60
      go_wp2_with (go_at_call 67; (with_reducible refine (field_any h a (j : Int) hi).mono ?_); rw [HF.out]; rintro e w1 ⟨rfl, n1, rfl⟩)
      go_ret2
      exact ⟨rfl, _, rfl⟩
end Go.Proofs.Ytfinpgkehjbcpaa

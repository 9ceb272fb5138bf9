/- Chapter 02: contracts of the reference's methods that only read. -/
import Derived.Test.YtfinpgkehjbcpaaRRep
import Derived.Test.YtfinpgkehjbcpaaHMaps
namespace Go.Proofs.Ytfinpgkehjbcpaa
open Go.ChangeShapes Go.WideShapes Go.ChangeAt Go.RowKit Go.Deep Go.Joins Go.Maps
set_option linter.unusedVariables false
set_option linter.unusedSimpArgs false

theorem ptr_bd {m : Hp} (h : Good m) (i : Nat) : 6 ≤ ptr m.L i ∧ ptr m.L i ≤ 262144 := by have := adr_bd h i; unfold ptr; omega
theorem ptr_succ (L : List Ob) (i : Nat) (h : i < L.length) : ptr L (i + 1) = ptr L i + 2 * (3 + (L[i].F.length : Int)) := by unfold ptr; rw [adr_succ L i h]; omega
theorem len_bd {m : Hp} (h : Good m) : m.L.length ≤ 131072 := by have := szs_len m.L; have := h.fits; have := h.hi; omega

set_option maxRecDepth 100000 in
set_option maxHeartbeats 8000000 in
theorem rplace_any {w : World} {R : Nat → Prop} {r : Nat} {m : Hp} {lv : Value} {fv : Nat → Value} (h : RM w R r m lv fv) (a : Int) : Calls Try.prog 65 #[.pointer (some ⟨r, 0, none⟩), .int .i64 a] w fun e w' => e = .returned (.int .i64 (plcV m.L a)) ∧ w' = w := by
  have c2 := h.c2
  obtain ⟨A, c, rfl, hc, hobj⟩ := h.list
  have HOBJ := Lib.hid hobj
  have hlen := len_bd h.good
  obtain ⟨nl, hnl⟩ : ∃ nl, m.L.length = nl := ⟨_, rfl⟩
  have HNL := Lib.hid hnl
  have H := Lib.hid h
  rw [hnl] at c2 hlen hc
  clear hobj hnl h
  go_enter Try.func65, Try.ntmps65
  go_wp2_with fail
  go_loop [5, 6] (fun p i => ∃ k : Nat, k ≤ nl ∧ i = .int .i64 k ∧ p = .int .i64 (ptr m.L k) ∧ ∀ j, j < k → ptr m.L j ≠ a) (fun _ i => nl - (intOf i).toNat)
  case atStart => exact ⟨0, Nat.zero_le _, rfl, by unfold ptr; rw [adr_zero]; rfl, fun j hj => absurd hj (by omega)⟩
  case round =>
    obtain ⟨k, hk, rfl, rfl, hall⟩ := hrel
    have HALL := Lib.hid hall
    clear hall
    obtain ⟨p, hp⟩ : ∃ p, ptr m.L k = p := ⟨_, rfl⟩
    have HP := Lib.hid hp
    have hpb := ptr_bd H.out.good k
    rw [hp] at hpb ⊢
    clear hp
    by_cases hlt : k < nl
    · have d1 : decide (k < nl) = true := decide_eq_true hlt
      have hkl : k < m.L.length := by rw [HNL.out]; exact hlt
      obtain ⟨g, rfl, _, _, _, e3⟩ := HOBJ.out k hkl
      obtain ⟨FA, fc, hfv, _, _⟩ := H.out.field hkl
      have hfl := H.out.good.len _ (List.getElem_mem hkl)
      obtain ⟨nf, hnf⟩ : ∃ nf, m.L[k].F.length = nf := ⟨_, rfl⟩
      have HS : Hid (ptr m.L (k + 1) = p + 2 * (3 + (nf : Int))) := by show _ = _; rw [ptr_succ m.L k hkl, HP.out, hnf]
      rw [hfv, hnf] at e3
      rw [hnf] at hfl
      clear hfv hnf
      have g0 : (0 : Int) ≤ (k : Int) := by omega
      have g1 : (k : Int) < (nl : Int) := by omega
      by_cases hpa : p = a
      · have d2 : (p == a) = true := by simpa using hpa
        have HV : Hid (plcV m.L a = (k : Int)) := by show _ = _; unfold plcV; rw [← hpa, ← HP.out, plc_at hkl]
        go_wp2_with fail
        go_ret
        exact ⟨ret_int HV.out.symm, rfl⟩
      · have d2 : (p == a) = false := by simpa using hpa
        go_wp2_with fail
        go_round
        case rel => exact ⟨k + 1, by omega, by go_num, by rw [HS.out], fun j hj => (by
            rcases Nat.lt_or_ge j k with h | h
            · exact HALL.out j h
            · obtain rfl : j = k := by omega
              rw [HP.out]; exact hpa)⟩
        case measure => simp [intOf]; omega
    · have hkn : k = nl := by omega
      have d1 : decide (k < nl) = false := decide_eq_false hlt
      clear hlt
      have HV : Hid (plcV m.L a = -1) := by
        show _ = _
        unfold plcV
        rw [plc_none (fun i hi => HALL.out i (by have := HNL.out; omega))]
      subst hkn
      go_wp2_with fail
      go_ret
      exact ⟨ret_int HV.out.symm, rfl⟩

theorem plc_le (L : List Ob) (a : Int) : -1 ≤ plcV L a := by unfold plcV; cases plc L a <;> simp
theorem plcV_is (L : List Ob) (a : Int) : decide (0 ≤ plcV L a) = isV L a := by
  cases h : isV L a
  · exact decide_eq_false (by have := plcV_neg.2 h; omega)
  · refine decide_eq_true ?_
    rcases Int.lt_or_le (plcV L a) 0 with h1 | h1
    · rw [plcV_neg.1 h1] at h; cases h
    · exact h1

theorem rmay_any {w : World} {R : Nat → Prop} {r : Nat} {m : Hp} {lv : Value} {fv : Nat → Value} (h : RM w R r m lv fv) (a : Int) : Calls Try.prog 45 #[.pointer (some ⟨r, 0, none⟩), .int .i64 a] w fun e w' => e = .returned (.bool (mayV m.L a)) ∧ w' = w := by
  by_cases h0 : a = 0
  · subst h0
    go_enter Try.func45, Try.ntmps45
    go_wp2_with fail
    go_ret
    exact ⟨rfl, rfl⟩
  by_cases h2 : a = 2
  · subst h2
    go_enter Try.func45, Try.ntmps45
    go_wp2_with fail
    go_ret
    exact ⟨rfl, rfl⟩
  by_cases h4 : a = 4
  · subst h4
    go_enter Try.func45, Try.ntmps45
    go_wp2_with fail
    go_ret
    exact ⟨rfl, rfl⟩
  have e0 : (a == 0) = false := by simpa using h0
  have e2 : (a == 2) = false := by simpa using h2
  have e4 : (a == 4) = false := by simpa using h4
  obtain ⟨v, hv⟩ : ∃ v, plcV m.L a = v := ⟨_, rfl⟩
  have HPL := Lib.hid hv
  cases hs : isSmallV a
  · have HS := Lib.hid hs
    have HM : Hid (mayV m.L a = decide (0 ≤ v)) := by show _ = _; unfold mayV; rw [e0, e2, e4, hs, ← hv, plcV_is]; rfl
    clear hs h0 h2 h4 hv
    go_enter Try.func45, Try.ntmps45
    go_wp2_with (first | (go_at_call 79; (with_reducible refine (risSmall_any a _).mono ?_); rw [HS.out]; rintro e w1 ⟨rfl, hw1⟩; replace hw1 := hw1.symm; subst hw1) | (go_at_call 65; (with_reducible refine (rplace_any h a).mono ?_); rw [HPL.out]; rintro e w1 ⟨rfl, hw1⟩; replace hw1 := hw1.symm; subst hw1))
    go_ret
    exact ⟨ret_bool HM.out.symm, rfl⟩
  · have HS := Lib.hid hs
    have HM : Hid (mayV m.L a = true) := by show _ = _; unfold mayV; rw [e0, e2, e4, hs]; rfl
    clear hs h0 h2 h4 hv
    go_enter Try.func45, Try.ntmps45
    go_wp2_with (go_at_call 79; (with_reducible refine (risSmall_any a _).mono ?_); rw [HS.out]; rintro e w1 ⟨rfl, hw1⟩; replace hw1 := hw1.symm; subst hw1)
    go_ret
    exact ⟨ret_bool HM.out.symm, rfl⟩
theorem rat_any {w : World} {R : Nat → Prop} {r : Nat} {m : Hp} {lv : Value} {fv : Nat → Value} (h : RM w R r m lv fv) (p : Nat) (hp : p ≤ m.L.length) : Calls Try.prog 32 #[.pointer (some ⟨r, 0, none⟩), .int .i64 (p : Int)] w fun e w' => e = .returned (.int .i64 (ptr m.L p)) ∧ w' = w := by
  have c2 := h.c2
  obtain ⟨A, c, rfl, hc, hobj⟩ := h.list
  have HOBJ := Lib.hid hobj
  have hlen := len_bd h.good
  obtain ⟨nl, hnl⟩ : ∃ nl, m.L.length = nl := ⟨_, rfl⟩
  have HNL := Lib.hid hnl
  have H := Lib.hid h
  rw [hnl] at c2 hlen hc hp
  clear hobj hnl h
  go_enter Try.func32, Try.ntmps32
  go_wp2_with fail
  go_loop [5, 6] (fun q i => ∃ k : Nat, k ≤ p ∧ i = .int .i64 k ∧ q = .int .i64 (adr m.L k : Int)) (fun _ i => p - (intOf i).toNat)
  case atStart => exact ⟨0, Nat.zero_le _, rfl, by rw [adr_zero]; rfl⟩
  case round =>
    obtain ⟨k, hk, rfl, rfl⟩ := hrel
    obtain ⟨q, hq⟩ : ∃ q, adr m.L k = q := ⟨_, rfl⟩
    have HQ := Lib.hid hq
    have hqb := adr_bd H.out.good k
    rw [hq] at hqb ⊢
    clear hq
    by_cases hlt : k < p
    · have d1 : decide (k < p) = true := decide_eq_true hlt
      have hkl : k < m.L.length := by rw [HNL.out]; omega
      obtain ⟨g, rfl, _, _, _, e3⟩ := HOBJ.out k hkl
      obtain ⟨FA, fc, hfv, _, _⟩ := H.out.field hkl
      have hfl := H.out.good.len _ (List.getElem_mem hkl)
      obtain ⟨nf, hnf⟩ : ∃ nf, m.L[k].F.length = nf := ⟨_, rfl⟩
      have HS : Hid ((adr m.L (k + 1) : Int) = (q : Int) + 3 + (nf : Int)) := by show _ = _; rw [adr_succ m.L k hkl, HQ.out, hnf]; omega
      rw [hfv, hnf] at e3
      rw [hnf] at hfl
      clear hfv hnf
      have g0 : (0 : Int) ≤ (k : Int) := by omega
      have g1 : (k : Int) < (nl : Int) := by omega
      go_wp2_with fail
      go_round
      case rel => exact ⟨k + 1, by omega, by go_num, by rw [HS.out]⟩
      case measure => simp [intOf]; omega
    · have hkn : k = p := by omega
      have d1 : decide (k < p) = false := decide_eq_false hlt
      clear hlt
      subst hkn
      go_wp2_with fail
      go_ret
      exact ⟨ret_int (by unfold ptr; rw [HQ.out]), rfl⟩
theorem rroom_any {w : World} {R : Nat → Prop} {r : Nat} {m : Hp} {lv : Value} {fv : Nat → Value} (h : RM w R r m lv fv) : Calls Try.prog 22 #[.pointer (some ⟨r, 0, none⟩)] w fun e w' => e = .returned (.int .i64 ((m.size : Int) - (adr m.L m.L.length : Int))) ∧ ∃ n, w' = w.drewN n := by
  have c0 := h.c0
  have c2 := h.c2
  have hsz := h.good.hi
  have ha := adr_bd h.good m.L.length
  obtain ⟨A, c, hlv, hc, _⟩ := h.list
  rw [hlv] at c2
  have hat : ∀ n, Calls Try.prog 32 #[.pointer (some ⟨r, 0, none⟩), .int .i64 (m.L.length : Int)] (w.drewN n) fun e w' => e = .returned (.int .i64 (2 * (adr m.L m.L.length : Int))) ∧ w' = w.drewN n := fun n => rat_any (h.drewN n) _ (Nat.le_refl _)
  obtain ⟨t, ht⟩ : ∃ t, adr m.L m.L.length = t := ⟨_, rfl⟩
  rw [ht] at ha hat ⊢
  have HAT := Lib.hid hat
  have hwr : IntKind.i64.wrap ((m.size : Int) - (t : Int)) = (m.size : Int) - (t : Int) := by rw [IntKind.wrap_i64]; omega
  have hq1 : (2 * (t : Int)).tdiv 2 = (t : Int) := by rw [Int.tdiv_eq_ediv_of_nonneg (by omega)]; omega
  have hq2 : (2 * (t : Int)) / 2 = (t : Int) := by omega
  have hw2 : IntKind.i64.wrap (t : Int) = (t : Int) := by rw [IntKind.wrap_i64]; omega
  clear h ht hat hlv
  go_enter Try.func22, Try.ntmps22
  go_wp2_with fail
  go_quiet ((go_at_call 32; exact Calls.quiet_of_same (HAT.out _)))
  go_wp2_with fail
  go_ret
  exact ⟨rfl, _, rfl⟩

theorem infoI : (Try.prog.info? 3).map (fun i => (i.zero, i.size, i.bytes)) = some (some (.int .i64 0), 1, 8) := by kernel_rfl
theorem cells_newN (w : World) (t : TypeId) (l : List Value) (n : Nat) (hn : n = w.heap.size) : ∀ (j : Nat) (u : Value), l[j]? = some u → (w.alloc (.cells l.toArray t)).cell? ((⟨n, 0, none⟩ : Addr).add j) = some u := by
  subst hn; exact cells_new w t l
/-- a slice of ints of the call's own, from base on -/
def Ints (w : World) (base : Nat) (v : Value) (zs : List Int) : Prop := w.ownsRow base 3 1 v zs.length (zs.map (Value.int .i64))
def ptrs (L : List Ob) : List Int := (List.range L.length).map (ptr L)

set_option maxRecDepth 100000 in
set_option maxHeartbeats 8000000 in
theorem robjects_any {w : World} {R : Nat → Prop} {r : Nat} {m : Hp} {lv : Value} {fv : Nat → Value} (h : RM w R r m lv fv) : Calls Try.prog 12 #[.pointer (some ⟨r, 0, none⟩)] w fun e w' => ∃ v, e = .returned v ∧ Ints w' w.heap.size v (ptrs m.L) ∧ Below w.heap.size w w' := by
  obtain ⟨i0, hi, hz0, hz1, hz2⟩ := info_parts infoI
  have hlen := len_bd h.good
  obtain ⟨nl, hnl⟩ : ∃ nl, m.L.length = nl := ⟨_, rfl⟩
  have HNL := Lib.hid hnl
  obtain ⟨A, c, hlv, hc, _⟩ := h.list
  have H := Lib.hid h
  rw [hnl] at hlen hc hlv
  clear hnl h
  have hc2 := H.out.c2
  rw [hlv] at hc2
  clear hlv
  go_enter Try.func12, Try.ntmps12
  go_wp2_with fail
  go_loopw [3, 4] (fun v i wr => ∃ k : Nat, k ≤ nl ∧ i = .int .i64 k ∧ wr.ownsRow w.heap.size 3 1 v k (((List.range k).map (ptr m.L)).map (Value.int .i64)) ∧ Below w.heap.size w wr) (fun _ i _ => nl - (intOf i).toNat)
  case atStart => exact ⟨0, Nat.zero_le _, rfl, World.ownsRow_nil _ _ _ _, Below.refl _ _⟩
  case round =>
    obtain ⟨k, hk, rfl, hown, hBw⟩ := hrel
    have hws := hBw.size
    have HB := Lib.hid hBw
    have HR := Lib.hid (H.out.below hBw)
    have c2 := HR.out.c2
    rw [show lv = _ from Option.some.inj ((H.out.c2).symm.trans hc2)] at c2
    have HOWN := Lib.hid hown
    clear hown hBw
    by_cases hlt : k < nl
    · have d1 : decide (k < nl) = true := decide_eq_true hlt
      have hat := rat_any HR.out k (by have := HNL.out; omega)
      obtain ⟨q, hq⟩ : ∃ q, ptr m.L k = q := ⟨_, rfl⟩
      rw [hq] at hat
      have HAT := Lib.hid hat
      have HQ := Lib.hid hq
      clear hat hq
      go_wp2_with (first | (go_at_call 32; (with_reducible refine HAT.out.mono ?_); rintro e w1 ⟨rfl, hw1⟩; replace hw1 := hw1.symm; subst hw1) | (at_builtin; refine wpList_append_own _ rfl _ _ 23 rfl w.heap.size 3 i0 (.int .i64 0) 1 8 Try.underlying23 hi hz0 hz1 hz2 rfl (by decide) _ _ _ rfl (HOWN.out.alloc _) ⟨wr.heap.size, 0, none⟩ 1 1 [.int .i64 q] rfl rfl (cells_newN _ _ _ _ (by simp)) (by simp [Value.oneCell']) (by unfold maxLen; omega) (by omega) (by simp only [World.size_alloc]; omega) ?_; intro v2 w2 hown3 hg2 _))
      go_roundw
      case rel =>
        have hb2 := below_of_append (HOWN.out.alloc (.cells #[.int .i64 q] 3)) hg2 (by simp only [World.size_alloc]; omega)
        refine ⟨k + 1, hlt, by go_num, ?_, ((HB.out.alloc hws _).trans hb2)⟩
        rw [List.range_succ, List.map_append, List.map_append]
        simp only [List.map_cons, List.map_nil]
        rw [HQ.out]
        exact hown3
      case measure => simp [intOf]; omega
    · have hkn : k = nl := by omega
      have d1 : decide (k < nl) = false := decide_eq_false hlt
      clear hlt
      subst hkn
      go_wp2_with fail
      go_ret
      refine ⟨_, rfl, ?_, HB.out⟩
      unfold Ints ptrs
      have := HOWN.out
      rw [← HNL.out] at this
      simpa using this
end Go.Proofs.Ytfinpgkehjbcpaa

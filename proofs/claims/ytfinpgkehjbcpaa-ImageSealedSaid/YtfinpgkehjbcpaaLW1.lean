/- Chapter 02: the law's words. -/
import Derived.Test.YtfinpgkehjbcpaaHE1
import Derived.Deep.RegionLaw
namespace Go.Proofs.Ytfinpgkehjbcpaa
open Go.ChangeShapes Go.WideShapes Go.ChangeAt Go.RowKit Go.Deep Go.Joins Go.Maps
set_option linter.unusedVariables false
set_option linter.unusedSimpArgs false
/-- a word: a number below 0 says which of the objects it points to -/
def wordV (l : List Int) (i : Int) : Int := if i < 0 ∧ 0 < l.length then l.getD ((-(i + 1)).toNat % l.length) 0 else i
theorem wordV_in {l : List Int} (hl : ∀ x, x ∈ l → InI x) {i : Int} (hi : InI i) : InI (wordV l i) := by
  unfold wordV
  split
  · rename_i h
    rw [List.getD_eq_getElem?_getD, List.getElem?_eq_getElem (Nat.mod_lt _ h.2)]
    exact hl _ (List.getElem_mem _)
  · exact hi
set_option maxRecDepth 100000 in
set_option maxHeartbeats 16000000 in
theorem word_any {w : World} {A : Option Addr} {l : List Int} {c : Nat} (hA : Nums w A l) (hn : l.length ≤ 1000000) (i : Int) (hi : InI i) :
    Calls Try.prog 27 #[.slice A l.length c, .int .i64 i] w fun e w' => e = .returned (.int .i64 (wordV l i)) ∧ w' = w := by
  obtain ⟨n, hnl⟩ : ∃ n, l.length = n := ⟨_, rfl⟩
  have hi1 := hi.1
  have hi2 := hi.2
  by_cases c1 : i < 0
  · by_cases c2 : 0 < l.length
    · obtain ⟨j, hj⟩ : ∃ j : Nat, -(i + 1) = (j : Int) := ⟨(-(i + 1)).toNat, by omega⟩
      obtain ⟨u, hu⟩ : ∃ u, i + 1 = u := ⟨_, rfl⟩
      have hwu : IntKind.i64.wrap (i + 1) = u := by rw [IntKind.wrap_i64, hu]; omega
      have hwj : IntKind.i64.wrap (-u) = (j : Int) := by rw [IntKind.wrap_i64, ← hu, hj]; omega
      obtain ⟨q, hq⟩ : ∃ q, j % n = q := ⟨_, rfl⟩
      have hqn : q < n := by rw [← hq]; exact Nat.mod_lt _ (by omega)
      have hm : (j : Int).tmod (n : Int) = (q : Int) := by rw [Int.tmod_eq_emod_of_nonneg (by omega), ← hq]; simp
      have hwm : IntKind.i64.wrap (q : Int) = (q : Int) := by rw [IntKind.wrap_i64]; omega
      obtain ⟨b, off, rfl, hb, hc⟩ := hA q (by omega)
      obtain ⟨x, hx⟩ : ∃ x, l[q] = x := ⟨_, rfl⟩
      have HX : Hid (wordV l i = x) := by
        show _ = _
        unfold wordV
        rw [if_pos ⟨c1, c2⟩, hj, Int.toNat_natCast, hnl, hq, List.getD_eq_getElem?_getD, List.getElem?_eq_getElem (by omega)]
        exact hx
      rw [hx] at hc
      rw [HX.out, hnl]
      rw [hnl] at hn c2
      have d1 : decide (i < 0) = true := decide_eq_true c1
      have d2 : decide ((0 : Int) < (n : Int)) = true := decide_eq_true (by omega)
      have d3 : decide (0 < n) = true := decide_eq_true c2
      have g0 : (0 : Int) ≤ (q : Int) := by omega
      have g1 : (q : Int) < (n : Int) := by omega
      have nz : n ≠ 0 := by omega
      have nz2 : ¬ ((n : Int) = 0) := by omega
      clear hA hnl hx hq hj hu hi hi1 hi2 c1
      go_enter Try.func27, Try.ntmps27
      go_wp2_with fail
      go_ret
      exact ⟨rfl, rfl⟩
    · have HX : wordV l i = i := by unfold wordV; rw [if_neg (fun q => c2 q.2)]
      have h0 : n = 0 := by omega
      rw [HX, hnl, h0]
      have d1 : decide (i < 0) = true := decide_eq_true c1
      clear hA hnl HX hi hi1 hi2 c1 c2 hn h0
      go_enter Try.func27, Try.ntmps27
      go_wp2_with fail
      go_ret
      exact ⟨rfl, rfl⟩
  · have HX : wordV l i = i := by unfold wordV; rw [if_neg (fun q => c1 q.1)]
    rw [HX, hnl]
    have d1 : decide (i < 0) = false := decide_eq_false c1
    clear hA hnl HX hi hi1 hi2 c1 hn
    go_enter Try.func27, Try.ntmps27
    go_wp2_with fail
    go_ret
    exact ⟨rfl, rfl⟩
set_option maxRecDepth 100000 in
set_option maxHeartbeats 16000000 in
theorem same_any {w : World} {A B : Option Addr} {l : List Int} {c d : Nat} (hA : Nums w A l) (hB : Nums w B l) (hn : l.length ≤ maxLen) :
    Calls Try.prog 19 #[.slice A l.length c, .slice B l.length d] w fun e w' => e = .returned (.bool true) ∧ Below w.heap.size w w' := by
  have HA := Lib.hid hA
  have HB := Lib.hid hB
  obtain ⟨n, hnl⟩ : ∃ n, l.length = n := ⟨_, rfl⟩
  have HN := Lib.hid hnl
  rw [hnl] at hn ⊢
  replace hn : n ≤ 9223372036854775807 := hn
  clear hA hB hnl
  go_enter Try.func19, Try.ntmps19
  go_wp2_with fail
  go_loopw [5] (fun i wr => ∃ k : Nat, k ≤ n ∧ i = .int .i64 k ∧ Below w.heap.size w wr) (fun i _ => n - (intOf i).toNat)
  case atStart => exact ⟨0, Nat.zero_le _, rfl, Below.refl _ _⟩
  case round =>
    obtain ⟨k, hk, rfl, hb⟩ := hrel
    have HBW := Lib.hid hb
    by_cases hlt : k < n
    · have hlt' : decide (k < n) = true := decide_eq_true hlt
      have hkl : k < l.length := by rw [HN.out]; exact hlt
      obtain ⟨g, off, rfl, hgl, hc⟩ := HA.out.below hb k hkl
      obtain ⟨g', off', rfl, hgl', hc'⟩ := HB.out.below hb k hkl
      obtain ⟨x, hx⟩ : ∃ x, l[k] = x := ⟨_, rfl⟩
      rw [hx] at hc hc'
      have g0 : (0 : Int) ≤ (k : Int) := by omega
      have g1 : (k : Int) < (n : Int) := by omega
      clear hx hb hgl hgl'
      go_wp2_with fail
      go_quiet (fail)
      go_wp2
      go_roundw
      case rel => exact ⟨k + 1, by omega, by go_num, by have hx := HBW.out; (repeat' (first | (with_reducible exact Below.refl _ _) | (with_reducible assumption) | (with_reducible refine below_drewN ?_ _) | (with_reducible refine Below.alloc ?_ ?_ _) | (with_reducible refine Below.drew ?_) | (with_reducible refine Below.setCell ?_ ?_ _) | go_size))⟩
      case measure => simp [intOf]; omega
    · have hkn : k = n := by omega
      have hlt' : decide (k < n) = false := decide_eq_false hlt
      clear hb
      go_wp2
      go_ret
      exact ⟨rfl, HBW.out⟩
def allV (l js : List Int) : List Int := (js.take 10).map (wordV l)
theorem allV_in {l js : List Int} (hl : ∀ x, x ∈ l → InI x) (hj : ∀ x, x ∈ js → InI x) : ∀ x, x ∈ allV l js → InI x := by
  intro x hx
  obtain ⟨j, hj1, rfl⟩ := List.mem_map.1 hx
  exact wordV_in hl (hj j (List.mem_of_mem_take hj1))
theorem allV_len (l js : List Int) : (allV l js).length ≤ 10 := by
  unfold allV
  rw [List.length_map, List.length_take]
  omega
set_option maxRecDepth 100000 in
set_option maxHeartbeats 16000000 in
theorem all_any {w : World} {A B : Option Addr} {l js : List Int} {c d : Nat} (hA : Nums w A l) (hB : Nums w B js) (hn : l.length ≤ 1000000) (hm : js.length ≤ maxLen) (hj : ∀ x, x ∈ js → InI x) :
    Calls Try.prog 11 #[.slice A l.length c, .slice B js.length d] w fun e w' => ∃ v, e = .returned v ∧ (allV l js = [] → v = .slice none 0 0) ∧ Ints w' w.heap.size v (allV l js) ∧ Below w.heap.size w w' := by
  obtain ⟨i0, hi, hz0, hz1, hz2⟩ := info_parts infoI
  have HA := Lib.hid hA
  have HBN := Lib.hid hB
  have HJ := Lib.hid hj
  have HLN := Lib.hid hn
  obtain ⟨nl, hnl⟩ : ∃ n, l.length = n := ⟨_, rfl⟩
  obtain ⟨n, hjn⟩ : ∃ n, js.length = n := ⟨_, rfl⟩
  have HL := Lib.hid hnl
  have HN := Lib.hid hjn
  obtain ⟨q, hq⟩ : ∃ q, min n 10 = q := ⟨_, rfl⟩
  have hq20 : q ≤ 10 := by omega
  have hqn : q ≤ n := by omega
  have HQ := Lib.hid hq
  rw [hjn] at hm ⊢
  replace hm : n ≤ 9223372036854775807 := hm
  rw [hnl]
  clear hA hB hnl hjn hj hq hn
  go_enter Try.func11, Try.ntmps11
  go_wp2_with fail
  go_loopw [5, 6] (fun v i wr => ∃ k : Nat, k ≤ q ∧ i = .int .i64 k ∧ (k = 0 → v = .slice none 0 0) ∧ wr.ownsRow w.heap.size 3 1 v k (((js.take k).map (wordV l)).map (Value.int .i64)) ∧ Below w.heap.size w wr) (fun _ i _ => q - (intOf i).toNat)
  case atStart => exact ⟨0, Nat.zero_le _, rfl, fun _ => rfl, World.ownsRow_nil _ _ _ _, Below.refl _ _⟩
  case round =>
    obtain ⟨k, hk, rfl, hnil, hown, hBw⟩ := hrel
    have HNI := Lib.hid hnil
    clear hnil
    have hws := hBw.size
    have HB := Lib.hid hBw
    have HOWN := Lib.hid hown
    by_cases hlt : k < q
    · have d1 : decide (k < n) = true := decide_eq_true (by omega)
      have d2 : decide (k < 10) = true := decide_eq_true (by omega)
      have d3 : decide ((k : Int) < 10) = true := decide_eq_true (by omega)
      have hkl : k < js.length := by rw [HN.out]; omega
      obtain ⟨g, off, rfl, hgl, hc⟩ := HBN.out.below hBw k hkl
      obtain ⟨x, hx⟩ : ∃ x, js[k] = x := ⟨_, rfl⟩
      rw [hx] at hc
      have HX := Lib.hid hx
      have HW := Lib.hid (word_any (c := c) (HA.out.below hBw) HLN.out x (by rw [← hx]; exact HJ.out _ (List.getElem_mem _)))
      rw [HL.out] at HW
      have g0 : (0 : Int) ≤ (k : Int) := by omega
      have g1 : (k : Int) < (n : Int) := by omega
      clear hx hgl hown hBw
      go_wp2_with (first | (go_at_call 27; (with_reducible refine (HW.out).mono ?_); rintro e w3 ⟨rfl, hw3⟩; replace hw3 := hw3.symm; subst hw3) | (at_builtin; refine wpList_append_own _ rfl _ _ 23 rfl w.heap.size 3 i0 (.int .i64 0) 1 8 Try.underlying23 hi hz0 hz1 hz2 rfl (by decide) _ _ _ rfl (HOWN.out.alloc _) ⟨wr.heap.size, 0, none⟩ 1 1 [.int .i64 (wordV l x)] rfl rfl (cells_newN _ _ _ _ (by simp)) (by simp [Value.oneCell']) (by unfold maxLen; omega) (by omega) (by simp only [World.size_alloc]; omega) ?_; intro v2 w2 hown3 hg2 _))
      go_roundw
      case rel =>
        have hb2 := below_of_append (HOWN.out.alloc (.cells #[.int .i64 (wordV l x)] 3)) hg2 (by simp only [World.size_alloc]; omega)
        refine ⟨k + 1, by omega, by go_num, fun e => absurd e (by omega), ?_, ((HB.out.alloc hws _).trans hb2)⟩
        rw [List.take_succ_eq_append_getElem hkl, HX.out, List.map_append, List.map_append]
        exact hown3
      case measure => simp [intOf]; omega
    · have hkn : k = q := by omega
      have HE : Hid ((js.take k).map (wordV l) = allV l js) := by
        show _ = _
        unfold allV
        have hqq := HQ.out
        have hnn := HN.out
        rcases Nat.lt_or_ge n 10 with z | z
        · rw [List.take_of_length_le (by omega), List.take_of_length_le (by omega)]
        · rw [show k = 10 by omega]
      have hlen : (allV l js).length = k := by rw [← HE.out, List.length_map, List.length_take, HN.out]; omega
      have HLEN := Lib.hid hlen
      clear hown hBw hlen
      rcases Nat.lt_or_ge k n with z | z
      · have d1 : decide (k < n) = true := decide_eq_true z
        have hk20 : k = 10 := by have := HQ.out; omega
        have d2 : decide (k < 10) = false := decide_eq_false (by omega)
        have d3 : decide ((k : Int) < 10) = false := decide_eq_false (by omega)
        clear hlt hk20
        subst hkn
        go_wp2_with fail
        go_ret
        refine ⟨_, rfl, fun e => HNI.out (by rw [← HLEN.out, e]; rfl), ?_, HB.out⟩
        unfold Ints
        rw [HLEN.out, ← HE.out]
        exact HOWN.out
      · have d1 : decide (k < n) = false := decide_eq_false (by omega)
        clear hlt
        go_wp2_with fail
        go_ret
        refine ⟨_, rfl, fun e => HNI.out (by rw [← HLEN.out, e]; rfl), ?_, HB.out⟩
        unfold Ints
        rw [HLEN.out, ← HE.out]
        exact HOWN.out
end Go.Proofs.Ytfinpgkehjbcpaa

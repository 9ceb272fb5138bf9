/- Chapter 04: who is of a class, who points: the program. -/
import Derived.Test.YthonodimjglnfaaSB
import Derived.Deep.RegionLaw
import Derived.Deep.RegionHeld3
import Derived.Deep.RegionWith
namespace Go.Proofs.Ythonodimjglnfaa
open Go.ChangeShapes Go.WideShapes Go.ChangeAt Go.RowKit Go.Deep Go.Joins Go.Maps
set_option linter.unusedVariables false
set_option linter.unusedSimpArgs false
theorem objects_n {w : World} {s bw bm : Nat} {m : Hp} (h : PM w s bw bm m) {n : Nat} (hn : (ptrs m.L).length = n) : Calls Try.prog 22 #[.pointer (some ⟨s, 0, none⟩)] w fun e w' => ∃ A c, e = .returned (.slice A n c) ∧ Nums w' A (ptrs m.L) ∧ Below w.heap.size w w' := by
  refine (objects_any h).mono ?_
  rintro e w' ⟨v, rfl, hv, hb⟩
  obtain ⟨A1, c1, rfl, hc1, hn1, hl1, hm1, hob1⟩ := hv.nums
  rw [hn]
  exact ⟨A1, c1, rfl, hn1, hb⟩
theorem ptrs_len {m : Hp} (h : Good m) : (ptrs m.L).length ≤ 131072 := by have := len_bd h; simp [ptrs]; omega
/-- is an object of a class? does it point to one? -/
def ofP (m : Hp) (c o : Int) : Bool := (lookO m.L o).cls == c
def ptP (m : Hp) (x o : Int) : Bool := ((lookO m.L o).cls == x) || (((lookO m.L o).fmt == 0) && (lookO m.L o).F.contains x)
/-- a closure that tells p; the world may grow -/
def TellsB (f : Nat) (caps : List Value) (p : Int → Bool) (w : World) : Prop := ∀ (a : Int), Calls Try.prog f (Value.int .i64 a :: caps).toArray w fun e w' => e = .returned (.bool (p a)) ∧ Below w.heap.size w w'
theorem Tells.b {f : Nat} {caps : List Value} {p : Int → Bool} {w : World} (h : Tells f caps p w) : TellsB f caps p w := fun a => (h 0 a).mono (fun e w' q => by
  obtain ⟨q1, n, q2⟩ := q
  exact ⟨q1, by rw [q2]; exact below_drewN (Below.refl _ _) _⟩)
theorem filter_take_yes {l : List Int} {p : Int → Bool} {k : Nat} (hk : k < l.length) (h : p l[k] = true) : (l.take (k + 1)).filter p = (l.take k).filter p ++ [l[k]] := by
  rw [List.take_succ_eq_append_getElem hk, List.filter_append]; simp [h]
theorem filter_take_no {l : List Int} {p : Int → Bool} {k : Nat} (hk : k < l.length) (h : p l[k] = false) : (l.take (k + 1)).filter p = (l.take k).filter p := by
  rw [List.take_succ_eq_append_getElem hk, List.filter_append]; simp [h]
set_option maxRecDepth 100000 in
set_option maxHeartbeats 16000000 in
theorem found_of {w : World} {s bw bm : Nat} {m : Hp} (h : PM w s bw bm m) {mb cb : Nat} {p : Int → Bool} (ht : ∀ w', Below w.heap.size w w' → TellsB 39 [.pointer (some ⟨mb, 0, none⟩), .pointer (some ⟨cb, 0, none⟩)] p w') : Calls Try.prog 38 #[.pointer (some ⟨s, 0, none⟩), .func (.func 39) #[] #[.pointer (some ⟨mb, 0, none⟩), .pointer (some ⟨cb, 0, none⟩)]] w fun e w' => ∃ v, e = .returned v ∧ Ints w' w.heap.size v ((ptrs m.L).filter p) ∧ Below w.heap.size w w' := by
  obtain ⟨i0, hi, hz0, hz1, hz2⟩ := info_parts infoI
  have H := Lib.hid h
  have HT := Lib.hid ht
  obtain ⟨n, hn⟩ : ∃ n, (ptrs m.L).length = n := ⟨_, rfl⟩
  have hnb : n ≤ 131072 := by rw [← hn]; exact ptrs_len h.good
  have HPN := Lib.hid hn
  clear h ht hn
  go_enter Try.func38, Try.ntmps38
  go_wp2_with (go_at_call 22; (with_reducible refine (objects_n H.out HPN.out).mono ?_); rintro e w1 ⟨A1, c1, rfl, hn1, hb1⟩; have HN1 := Lib.hid hn1; have HB1 := Lib.hid hb1; clear hn1 hb1)
  go_loopw [5, 13] (fun v i wr => ∃ (v0 : Value) (k q : Nat), v0 = v ∧ k ≤ n ∧ q ≤ k ∧ i = .int .i64 k ∧ wr.ownsRow w1.heap.size 3 1 v0 q ((((ptrs m.L).take k).filter p).map (Value.int .i64)) ∧ Below w1.heap.size w1 wr) (fun _ i _ => n - (intOf i).toNat)
  case atStart => exact ⟨_, 0, 0, rfl, Nat.zero_le _, Nat.le_refl _, rfl, World.ownsRow_nil _ _ _ _, Below.refl _ _⟩
  case round =>
    obtain ⟨v0, k, q, hv0, hk, hqk, rfl, hown, hbw⟩ := hrel
    subst hv0
    have HOWN := Lib.hid hown
    have HBW := Lib.hid hbw
    by_cases hlt : k < n
    · have d1 : decide (k < n) = true := decide_eq_true hlt
      have hkl : k < (ptrs m.L).length := by rw [HPN.out]; exact hlt
      obtain ⟨g, off, rfl, hgl, hc⟩ := HN1.out.below hbw k hkl
      obtain ⟨x, hx⟩ : ∃ x, (ptrs m.L)[k] = x := ⟨_, rfl⟩
      have HX := Lib.hid hx
      rw [hx] at hc
      have hod : Calls Try.prog 39 #[.int .i64 x, .pointer (some ⟨mb, 0, none⟩), .pointer (some ⟨cb, 0, none⟩)] wr fun e w' => e = .returned (.bool (p x)) ∧ Below wr.heap.size wr w' := HT.out wr (HB1.out.trans (hbw.mono HB1.out.size)) x
      have g0 : (0 : Int) ≤ (k : Int) := by omega
      have g1 : (k : Int) < (n : Int) := by omega
      clear hx hown hbw hgl
      cases hv : p x
      · have HOD := Lib.hid hod
        have HV := Lib.hid hv
        clear hod hv
        go_wp2_with (go_at_call 39; (with_reducible refine HOD.out.mono ?_); rw [HV.out]; rintro e w2 ⟨rfl, hw2⟩; have HB2 : Hid (Below w1.heap.size w1 w2) := Lib.hid (HBW.out.trans (hw2.mono HBW.out.size)); have HOWN2 : Hid (w2.ownsRow w1.heap.size 3 1 v0 q ((((ptrs m.L).take k).filter p).map (Value.int .i64))) := Lib.hid (ownsRow_below HOWN.out hw2); clear hw2)
        go_roundw
        case rel => exact ⟨_, k + 1, q, rfl, by omega, by omega, by go_num, by rw [filter_take_no hkl (by rw [HX.out]; exact HV.out)]; exact HOWN2.out, HB2.out⟩
        case measure => simp [intOf]; omega
      · have HOD := Lib.hid hod
        have HV := Lib.hid hv
        clear hod hv
        go_wp2_with (first | (go_at_call 39; (with_reducible refine HOD.out.mono ?_); rw [HV.out]; rintro e w2 ⟨rfl, hw2⟩; have HB2 : Hid (Below w1.heap.size w1 w2) := Lib.hid (HBW.out.trans (hw2.mono HBW.out.size)); have HOWN2 : Hid (w2.ownsRow w1.heap.size 3 1 v0 q ((((ptrs m.L).take k).filter p).map (Value.int .i64))) := Lib.hid (ownsRow_below HOWN.out hw2); clear hw2) | (at_builtin; refine wpList_append_own _ rfl _ _ 28 rfl w1.heap.size 3 i0 (.int .i64 0) 1 8 Try.underlying28 hi hz0 hz1 hz2 rfl (by decide) _ _ _ rfl (HOWN2.out.alloc _) ⟨w2.heap.size, 0, none⟩ 1 1 [.int .i64 x] rfl rfl (cells_newN _ _ _ _ (by simp)) (by simp [Value.oneCell']) (by unfold maxLen; omega) (by omega) (by have := HB2.out.size; simp only [World.size_alloc]; omega) ?_; intro v2 w3 hown3 hg2 _))
        go_roundw
        case rel =>
          have hz2 := HB2.out.size
          refine ⟨_, k + 1, q + 1, rfl, by omega, by omega, by go_num, ?_, (HB2.out.alloc hz2 _).trans (below_of_append (HOWN2.out.alloc (.cells #[.int .i64 x] 3)) hg2 (by simp only [World.size_alloc]; omega))⟩
          rw [filter_take_yes hkl (by rw [HX.out]; exact HV.out), HX.out, List.map_append]
          exact hown3
        case measure => simp [intOf]; omega
    · have hkn : k = n := by omega
      have d1 : decide (k < n) = false := decide_eq_false hlt
      clear hlt hown hbw
      subst hkn
      go_wp2_with fail
      go_ret
      have ho := HOWN.out
      rw [← HPN.out, List.take_length] at ho
      have hl : ((ptrs m.L).filter p).length = q := by have := ho.1; simpa using this
      refine ⟨_, rfl, ?_, HB1.out.trans (HBW.out.mono HB1.out.size)⟩
      unfold Ints
      rw [hl]
      exact ownsRow_mono ho HB1.out.size
set_option maxRecDepth 100000 in
set_option maxHeartbeats 16000000 in
theorem found_pt {w : World} {s bw bm : Nat} {m : Hp} (h : PM w s bw bm m) {mb cb : Nat} {p : Int → Bool} (ht : ∀ w', Below w.heap.size w w' → TellsB 42 [.pointer (some ⟨mb, 0, none⟩), .pointer (some ⟨cb, 0, none⟩)] p w') : Calls Try.prog 38 #[.pointer (some ⟨s, 0, none⟩), .func (.func 42) #[] #[.pointer (some ⟨mb, 0, none⟩), .pointer (some ⟨cb, 0, none⟩)]] w fun e w' => ∃ v, e = .returned v ∧ Ints w' w.heap.size v ((ptrs m.L).filter p) ∧ Below w.heap.size w w' := by
  obtain ⟨i0, hi, hz0, hz1, hz2⟩ := info_parts infoI
  have H := Lib.hid h
  have HT := Lib.hid ht
  obtain ⟨n, hn⟩ : ∃ n, (ptrs m.L).length = n := ⟨_, rfl⟩
  have hnb : n ≤ 131072 := by rw [← hn]; exact ptrs_len h.good
  have HPN := Lib.hid hn
  clear h ht hn
  go_enter Try.func38, Try.ntmps38
  go_wp2_with (go_at_call 22; (with_reducible refine (objects_n H.out HPN.out).mono ?_); rintro e w1 ⟨A1, c1, rfl, hn1, hb1⟩; have HN1 := Lib.hid hn1; have HB1 := Lib.hid hb1; clear hn1 hb1)
  go_loopw [5, 13] (fun v i wr => ∃ (v0 : Value) (k q : Nat), v0 = v ∧ k ≤ n ∧ q ≤ k ∧ i = .int .i64 k ∧ wr.ownsRow w1.heap.size 3 1 v0 q ((((ptrs m.L).take k).filter p).map (Value.int .i64)) ∧ Below w1.heap.size w1 wr) (fun _ i _ => n - (intOf i).toNat)
  case atStart => exact ⟨_, 0, 0, rfl, Nat.zero_le _, Nat.le_refl _, rfl, World.ownsRow_nil _ _ _ _, Below.refl _ _⟩
  case round =>
    obtain ⟨v0, k, q, hv0, hk, hqk, rfl, hown, hbw⟩ := hrel
    subst hv0
    have HOWN := Lib.hid hown
    have HBW := Lib.hid hbw
    by_cases hlt : k < n
    · have d1 : decide (k < n) = true := decide_eq_true hlt
      have hkl : k < (ptrs m.L).length := by rw [HPN.out]; exact hlt
      obtain ⟨g, off, rfl, hgl, hc⟩ := HN1.out.below hbw k hkl
      obtain ⟨x, hx⟩ : ∃ x, (ptrs m.L)[k] = x := ⟨_, rfl⟩
      have HX := Lib.hid hx
      rw [hx] at hc
      have hod : Calls Try.prog 42 #[.int .i64 x, .pointer (some ⟨mb, 0, none⟩), .pointer (some ⟨cb, 0, none⟩)] wr fun e w' => e = .returned (.bool (p x)) ∧ Below wr.heap.size wr w' := HT.out wr (HB1.out.trans (hbw.mono HB1.out.size)) x
      have g0 : (0 : Int) ≤ (k : Int) := by omega
      have g1 : (k : Int) < (n : Int) := by omega
      clear hx hown hbw hgl
      cases hv : p x
      · have HOD := Lib.hid hod
        have HV := Lib.hid hv
        clear hod hv
        go_wp2_with (go_at_call 42; (with_reducible refine HOD.out.mono ?_); rw [HV.out]; rintro e w2 ⟨rfl, hw2⟩; have HB2 : Hid (Below w1.heap.size w1 w2) := Lib.hid (HBW.out.trans (hw2.mono HBW.out.size)); have HOWN2 : Hid (w2.ownsRow w1.heap.size 3 1 v0 q ((((ptrs m.L).take k).filter p).map (Value.int .i64))) := Lib.hid (ownsRow_below HOWN.out hw2); clear hw2)
        go_roundw
        case rel => exact ⟨_, k + 1, q, rfl, by omega, by omega, by go_num, by rw [filter_take_no hkl (by rw [HX.out]; exact HV.out)]; exact HOWN2.out, HB2.out⟩
        case measure => simp [intOf]; omega
      · have HOD := Lib.hid hod
        have HV := Lib.hid hv
        clear hod hv
        go_wp2_with (first | (go_at_call 42; (with_reducible refine HOD.out.mono ?_); rw [HV.out]; rintro e w2 ⟨rfl, hw2⟩; have HB2 : Hid (Below w1.heap.size w1 w2) := Lib.hid (HBW.out.trans (hw2.mono HBW.out.size)); have HOWN2 : Hid (w2.ownsRow w1.heap.size 3 1 v0 q ((((ptrs m.L).take k).filter p).map (Value.int .i64))) := Lib.hid (ownsRow_below HOWN.out hw2); clear hw2) | (at_builtin; refine wpList_append_own _ rfl _ _ 28 rfl w1.heap.size 3 i0 (.int .i64 0) 1 8 Try.underlying28 hi hz0 hz1 hz2 rfl (by decide) _ _ _ rfl (HOWN2.out.alloc _) ⟨w2.heap.size, 0, none⟩ 1 1 [.int .i64 x] rfl rfl (cells_newN _ _ _ _ (by simp)) (by simp [Value.oneCell']) (by unfold maxLen; omega) (by omega) (by have := HB2.out.size; simp only [World.size_alloc]; omega) ?_; intro v2 w3 hown3 hg2 _))
        go_roundw
        case rel =>
          have hz2 := HB2.out.size
          refine ⟨_, k + 1, q + 1, rfl, by omega, by omega, by go_num, ?_, (HB2.out.alloc hz2 _).trans (below_of_append (HOWN2.out.alloc (.cells #[.int .i64 x] 3)) hg2 (by simp only [World.size_alloc]; omega))⟩
          rw [filter_take_yes hkl (by rw [HX.out]; exact HV.out), HX.out, List.map_append]
          exact hown3
        case measure => simp [intOf]; omega
    · have hkn : k = n := by omega
      have d1 : decide (k < n) = false := decide_eq_false hlt
      clear hlt hown hbw
      subst hkn
      go_wp2_with fail
      go_ret
      have ho := HOWN.out
      rw [← HPN.out, List.take_length] at ho
      have hl : ((ptrs m.L).filter p).length = q := by have := ho.1; simpa using this
      refine ⟨_, rfl, ?_, HB1.out.trans (HBW.out.mono HB1.out.size)⟩
      unfold Ints
      rw [hl]
      exact ownsRow_mono ho HB1.out.size
set_option maxRecDepth 100000 in
set_option maxHeartbeats 16000000 in
theorem of1_tells {w : World} {s bw bm : Nat} {m : Hp} (h : PM w s bw bm m) (mb cb : Nat) (c : Int) (hmb : w.cell? ⟨mb, 0, none⟩ = some (.pointer (some ⟨s, 0, none⟩))) (hcb : w.cell? ⟨cb, 0, none⟩ = some (.int .i64 c)) : Tells 39 [.pointer (some ⟨mb, 0, none⟩), .pointer (some ⟨cb, 0, none⟩)] (ofP m c) w := fun d a => by
  have hm : ∀ n, Calls Try.prog 40 #[.pointer (some ⟨s, 0, none⟩), .int .i64 a] ((w.drewN d).drewN n) fun e w' => e = .returned (.int .i64 (lookO m.L a).cls) ∧ ∃ k, w' = ((w.drewN d).drewN n).drewN k := fun n => class_any ((h.drewN d).drewN n) a
  have hc : (w.drewN d).cell? ⟨mb, 0, none⟩ = some (.pointer (some ⟨s, 0, none⟩)) := hmb
  have hc2 : (w.drewN d).cell? ⟨cb, 0, none⟩ = some (.int .i64 c) := hcb
  obtain ⟨w1, hw1⟩ : ∃ w1, w.drewN d = w1 := ⟨_, rfl⟩
  rw [hw1] at hm hc hc2 ⊢
  show Calls Try.prog 39 #[.int .i64 a, .pointer (some ⟨mb, 0, none⟩), .pointer (some ⟨cb, 0, none⟩)] w1 _
  obtain ⟨x, hx⟩ : ∃ x, (lookO m.L a).cls = x := ⟨_, rfl⟩
  rw [hx] at hm
  have HMM := Lib.hid hm
  have HB : Hid (ofP m c a = (x == c)) := Lib.hid (by unfold ofP; rw [hx])
  rw [HB.out]
  clear hm hx h hw1 hmb hcb
  go_enter Try.func39, Try.ntmps39
  go_wp2_with fail
  go_quiet ((go_at_call 40; exact Calls.quiet_of (HMM.out _)))
  go_wp2_with fail
  go_ret
  exact ⟨rfl, _, rfl⟩
theorem getV_look {m : Hp} {a : Int} {k : Nat} (hk : k < (lookO m.L a).F.length) : getV m.L a (k : Int) = ((lookO m.L a).F.getD k 0, 0) := by
  cases h : isV m.L a
  · obtain ⟨_, e, _⟩ := atN_no h
    rw [e] at hk
    exact absurd hk (by simp [zeroO])
  · unfold getV
    rw [h, if_pos rfl, if_neg (by omega), Int.toNat_natCast]
theorem look_len {m : Hp} (hg : Good m) (a : Int) : (lookO m.L a).F.length ≤ 256 := by
  cases h : isV m.L a
  · obtain ⟨_, e, _⟩ := atN_no h
    rw [e]; decide
  · obtain ⟨i, hi, _, _, _, e⟩ := atN_yes h
    rw [e]; exact hg.len _ (List.getElem_mem hi)
theorem has_take {l : List Int} {k : Nat} (hk : k < l.length) (x : Int) : (l.take (k + 1)).contains x = ((l.take k).contains x || (l[k] == x)) := by
  rw [contains_take hk]
  by_cases e : x = l[k]
  · rw [if_pos e, show (l[k] == x) = true by simpa using e.symm, Bool.or_true]
  · rw [if_neg e, show (l[k] == x) = false by simpa using fun q => e q.symm, Bool.or_false]
set_option maxRecDepth 100000 in
set_option maxHeartbeats 16000000 in
theorem pt1_tells {w : World} {s bw bm : Nat} {m : Hp} (h : PM w s bw bm m) (mb cb : Nat) (x : Int) (hmb : w.cell? ⟨mb, 0, none⟩ = some (.pointer (some ⟨s, 0, none⟩))) (hcb : w.cell? ⟨cb, 0, none⟩ = some (.int .i64 x)) : TellsB 42 [.pointer (some ⟨mb, 0, none⟩), .pointer (some ⟨cb, 0, none⟩)] (ptP m x) w := fun a => by
  have hm : ∀ n, Calls Try.prog 40 #[.pointer (some ⟨s, 0, none⟩), .int .i64 a] (w.drewN n) fun e w' => e = .returned (.int .i64 (lookO m.L a).cls) ∧ ∃ k, w' = (w.drewN n).drewN k := fun n => class_any (h.drewN n) a
  have hc : w.cell? ⟨mb, 0, none⟩ = some (.pointer (some ⟨s, 0, none⟩)) := hmb
  have hc2 : w.cell? ⟨cb, 0, none⟩ = some (.int .i64 x) := hcb
  have hpp := h
  show Calls Try.prog 42 #[.int .i64 a, .pointer (some ⟨mb, 0, none⟩), .pointer (some ⟨cb, 0, none⟩)] w _
  obtain ⟨w1, hw1⟩ : ∃ w1, w = w1 := ⟨_, rfl⟩
  have hgood := h.good
  rw [hw1] at hm hc hc2 hpp ⊢
  have HPP := Lib.hid hpp
  have HMC := Lib.hid hc
  have HXC := Lib.hid hc2
  obtain ⟨o, ho⟩ : ∃ o, lookO m.L a = o := ⟨_, rfl⟩
  have HO := Lib.hid ho
  obtain ⟨cl, hcl⟩ : ∃ c, o.cls = c := ⟨_, rfl⟩
  obtain ⟨fm, hfm⟩ : ∃ c, o.fmt = c := ⟨_, rfl⟩
  obtain ⟨nf, hnf⟩ : ∃ c, o.F.length = c := ⟨_, rfl⟩
  have hnb : nf ≤ 256 := by rw [← hnf, ← ho]; exact look_len hgood a
  have HFM : Hid ((lookO m.L a).fmt = fm) := Lib.hid (by rw [ho, hfm])
  have HNF : Hid (((lookO m.L a).F.length : Int) = (nf : Int)) := Lib.hid (by rw [ho, hnf])
  have HNL := Lib.hid hnf
  have HPT : Hid (ptP m x a = ((cl == x) || ((fm == 0) && o.F.contains x))) := Lib.hid (by unfold ptP; rw [ho, hcl, hfm])
  rw [ho, hcl] at hm
  have HMM := Lib.hid hm
  rw [HPT.out]
  clear hm h hw1 hmb hcb hpp hgood ho hcl hfm hnf
  go_enter Try.func42, Try.ntmps42
  go_wp2_with fail
  go_quiet ((go_at_call 40; exact Calls.quiet_of (HMM.out _)))
  go_wp2_with fail
  go_loopw [5, 6] (fun b i wr => ∃ (b0 : Bool) (k : Nat), .bool b0 = b ∧ k ≤ nf ∧ i = .int .i64 k ∧ b0 = ((cl == x) || (o.F.take k).contains x) ∧ (fm ≠ 0 → k = 0) ∧ Below w1.heap.size w1 wr) (fun _ i _ => nf - (intOf i).toNat)
  case atStart => exact ⟨_, 0, rfl, Nat.zero_le _, rfl, by simp, fun _ => rfl, below_drewN (Below.refl _ _) _⟩
  case round =>
    obtain ⟨b0, k, hb0, hk, rfl, hbe, hfk, hbw⟩ := hrel
    subst hb0
    have HBE := Lib.hid hbe
    have HFK := Lib.hid hfk
    have HBW := Lib.hid hbw
    have hc := ((hbw.cell (cell_lt HMC.out)).trans HMC.out)
    have hc2 := ((hbw.cell (cell_lt HXC.out)).trans HXC.out)
    by_cases hlt : k < nf
    · have d1 : decide (k < nf) = true := decide_eq_true hlt
      by_cases hf0 : fm = 0
      · subst hf0
        have hkl : k < o.F.length := by rw [HNL.out]; exact hlt
        obtain ⟨y, hy⟩ : ∃ y, o.F[k] = y := ⟨_, rfl⟩
        have HY := Lib.hid hy
        have HGT : Hid (getV m.L a (k : Int) = (y, 0)) := Lib.hid (by rw [getV_look (by rw [HO.out]; exact hkl), HO.out, List.getD_eq_getElem?_getD, List.getElem?_eq_getElem hkl]; simp [hy])
        have HKI : Hid (InI (k : Int)) := Lib.hid (inI_of (by omega) (by omega))
        clear hy hbe hfk hbw
        cases b0
        · obtain ⟨z, hz⟩ : ∃ z, (y == x) = z := ⟨_, rfl⟩
          have HZ := Lib.hid hz
          go_wp2_with (first | (go_at_call 25; (with_reducible refine (fields_any (HPP.out.below HBW.out) a).mono ?_); rw [HNF.out]; rintro e w6 ⟨rfl, n6, hw6⟩; have HBN : Hid (Below w1.heap.size w1 w6) := Lib.hid (by rw [hw6]; exact below_drewN HBW.out n6); clear HBW; have HBW := HBN; clear HBN; have hc := ((HBW.out.cell (cell_lt HMC.out)).trans HMC.out); have hc2 := ((HBW.out.cell (cell_lt HXC.out)).trans HXC.out); clear hw6) | (go_at_call 23; (with_reducible refine (format_any (HPP.out.below HBW.out) a).mono ?_); rw [HFM.out]; rintro e w6 ⟨rfl, n6, hw6⟩; have HBN : Hid (Below w1.heap.size w1 w6) := Lib.hid (by rw [hw6]; exact below_drewN HBW.out n6); clear HBW; have HBW := HBN; clear HBN; have hc := ((HBW.out.cell (cell_lt HMC.out)).trans HMC.out); have hc2 := ((HBW.out.cell (cell_lt HXC.out)).trans HXC.out); clear hw6) | (go_at_call 43; (with_reducible refine (get_any (HPP.out.below HBW.out) a (k : Int) HKI.out).mono ?_); rw [HGT.out]; rintro e w6 ⟨rfl, n6, hw6⟩; have HBN : Hid (Below w1.heap.size w1 w6) := Lib.hid (by rw [hw6]; exact below_drewN HBW.out n6); clear HBW; have HBW := HBN; clear HBN; have hc := ((HBW.out.cell (cell_lt HMC.out)).trans HMC.out); have hc2 := ((HBW.out.cell (cell_lt HXC.out)).trans HXC.out); clear hw6))
          go_roundw
          case rel => exact ⟨z, k + 1, rfl, by omega, by go_num, by rw [has_take hkl, HY.out, HZ.out, ← Bool.or_assoc, ← HBE.out]; rfl, fun q => absurd rfl q, HBW.out⟩
          case measure => simp [intOf]; omega
        · go_wp2_with (first | (go_at_call 25; (with_reducible refine (fields_any (HPP.out.below HBW.out) a).mono ?_); rw [HNF.out]; rintro e w6 ⟨rfl, n6, hw6⟩; have HBN : Hid (Below w1.heap.size w1 w6) := Lib.hid (by rw [hw6]; exact below_drewN HBW.out n6); clear HBW; have HBW := HBN; clear HBN; have hc := ((HBW.out.cell (cell_lt HMC.out)).trans HMC.out); have hc2 := ((HBW.out.cell (cell_lt HXC.out)).trans HXC.out); clear hw6) | (go_at_call 23; (with_reducible refine (format_any (HPP.out.below HBW.out) a).mono ?_); rw [HFM.out]; rintro e w6 ⟨rfl, n6, hw6⟩; have HBN : Hid (Below w1.heap.size w1 w6) := Lib.hid (by rw [hw6]; exact below_drewN HBW.out n6); clear HBW; have HBW := HBN; clear HBN; have hc := ((HBW.out.cell (cell_lt HMC.out)).trans HMC.out); have hc2 := ((HBW.out.cell (cell_lt HXC.out)).trans HXC.out); clear hw6) | (go_at_call 43; (with_reducible refine (get_any (HPP.out.below HBW.out) a (k : Int) HKI.out).mono ?_); rw [HGT.out]; rintro e w6 ⟨rfl, n6, hw6⟩; have HBN : Hid (Below w1.heap.size w1 w6) := Lib.hid (by rw [hw6]; exact below_drewN HBW.out n6); clear HBW; have HBW := HBN; clear HBN; have hc := ((HBW.out.cell (cell_lt HMC.out)).trans HMC.out); have hc2 := ((HBW.out.cell (cell_lt HXC.out)).trans HXC.out); clear hw6))
          go_roundw
          case rel => exact ⟨true, k + 1, rfl, by omega, by go_num, by rw [has_take hkl, ← Bool.or_assoc, ← HBE.out]; rfl, fun q => absurd rfl q, HBW.out⟩
          case measure => simp [intOf]; omega
      · have y0 : (fm == 0) = false := by simpa using hf0
        have hk0 := hfk hf0
        subst hk0
        have HV : Hid (((cl == x) || ((fm == 0) && o.F.contains x)) = b0) := Lib.hid (by rw [hbe, y0]; simp)
        clear hbe hfk hbw hf0
        go_wp2_with (first | (go_at_call 25; (with_reducible refine (fields_any (HPP.out.below HBW.out) a).mono ?_); rw [HNF.out]; rintro e w6 ⟨rfl, n6, hw6⟩; have HBN : Hid (Below w1.heap.size w1 w6) := Lib.hid (by rw [hw6]; exact below_drewN HBW.out n6); clear HBW; have HBW := HBN; clear HBN; have hc := ((HBW.out.cell (cell_lt HMC.out)).trans HMC.out); have hc2 := ((HBW.out.cell (cell_lt HXC.out)).trans HXC.out); clear hw6) | (go_at_call 23; (with_reducible refine (format_any (HPP.out.below HBW.out) a).mono ?_); rw [HFM.out]; rintro e w6 ⟨rfl, n6, hw6⟩; have HBN : Hid (Below w1.heap.size w1 w6) := Lib.hid (by rw [hw6]; exact below_drewN HBW.out n6); clear HBW; have HBW := HBN; clear HBN; have hc := ((HBW.out.cell (cell_lt HMC.out)).trans HMC.out); have hc2 := ((HBW.out.cell (cell_lt HXC.out)).trans HXC.out); clear hw6) | (go_at_call 43; (with_reducible refine (get_any (HPP.out.below HBW.out) a (k : Int) HKI.out).mono ?_); rw [HGT.out]; rintro e w6 ⟨rfl, n6, hw6⟩; have HBN : Hid (Below w1.heap.size w1 w6) := Lib.hid (by rw [hw6]; exact below_drewN HBW.out n6); clear HBW; have HBW := HBN; clear HBN; have hc := ((HBW.out.cell (cell_lt HMC.out)).trans HMC.out); have hc2 := ((HBW.out.cell (cell_lt HXC.out)).trans HXC.out); clear hw6))
        go_ret
        exact ⟨ret_bool HV.out.symm, HBW.out⟩
    · have hkn : k = nf := by omega
      have d1 : decide (k < nf) = false := decide_eq_false hlt
      have HV : Hid (((cl == x) || ((fm == 0) && o.F.contains x)) = b0) := Lib.hid (by
        rw [hbe]
        by_cases hf0 : fm = 0
        · rw [hf0, hkn, ← HNL.out, List.take_length]; rfl
        · rw [hfk hf0] at hkn ⊢
          have : o.F = [] := List.length_eq_zero_iff.1 (by rw [HNL.out]; exact hkn.symm)
          rw [this]; simp)
      clear hbe hfk hbw hlt hkn
      go_wp2_with (first | (go_at_call 25; (with_reducible refine (fields_any (HPP.out.below HBW.out) a).mono ?_); rw [HNF.out]; rintro e w6 ⟨rfl, n6, hw6⟩; have HBN : Hid (Below w1.heap.size w1 w6) := Lib.hid (by rw [hw6]; exact below_drewN HBW.out n6); clear HBW; have HBW := HBN; clear HBN; have hc := ((HBW.out.cell (cell_lt HMC.out)).trans HMC.out); have hc2 := ((HBW.out.cell (cell_lt HXC.out)).trans HXC.out); clear hw6) | (go_at_call 23; (with_reducible refine (format_any (HPP.out.below HBW.out) a).mono ?_); rw [HFM.out]; rintro e w6 ⟨rfl, n6, hw6⟩; have HBN : Hid (Below w1.heap.size w1 w6) := Lib.hid (by rw [hw6]; exact below_drewN HBW.out n6); clear HBW; have HBW := HBN; clear HBN; have hc := ((HBW.out.cell (cell_lt HMC.out)).trans HMC.out); have hc2 := ((HBW.out.cell (cell_lt HXC.out)).trans HXC.out); clear hw6) | (go_at_call 43; (with_reducible refine (get_any (HPP.out.below HBW.out) a (k : Int) HKI.out).mono ?_); rw [HGT.out]; rintro e w6 ⟨rfl, n6, hw6⟩; have HBN : Hid (Below w1.heap.size w1 w6) := Lib.hid (by rw [hw6]; exact below_drewN HBW.out n6); clear HBW; have HBW := HBN; clear HBN; have hc := ((HBW.out.cell (cell_lt HMC.out)).trans HMC.out); have hc2 := ((HBW.out.cell (cell_lt HXC.out)).trans HXC.out); clear hw6))
      go_ret
      exact ⟨ret_bool HV.out.symm, HBW.out⟩
def ofV (m : Hp) (c : Int) : List Int := (ptrs m.L).filter (ofP m c)
def ptV (m : Hp) (x : Int) : List Int := if isV m.L x then (ptrs m.L).filter (ptP m x) else []
set_option maxRecDepth 100000 in
set_option maxHeartbeats 16000000 in
theorem of_any {w : World} {s bw bm : Nat} {m : Hp} (h : PM w s bw bm m) (c : Int) : Calls Try.prog 14 #[.pointer (some ⟨s, 0, none⟩), .int .i64 c] w fun e w' => ∃ v, e = .returned v ∧ Ints w' w.heap.size v (ofV m c) ∧ Below w.heap.size w w' := by
  have H := Lib.hid h
  have hx1 : (w.alloc (.cells #[.pointer (some ⟨s, 0, none⟩)] 23)).heap.size = w.heap.size + 1 := by simp
  have HB : Hid (Below w.heap.size w ((w.alloc (.cells #[.pointer (some ⟨s, 0, none⟩)] 23)).alloc (.cells #[.int .i64 c] 3))) := Lib.hid (((Below.refl _ _).alloc (Nat.le_refl _) _).alloc (by simp) _)
  have HCM : Hid (((w.alloc (.cells #[.pointer (some ⟨s, 0, none⟩)] 23)).alloc (.cells #[.int .i64 c] 3)).cell? ⟨w.heap.size, 0, none⟩ = some (.pointer (some ⟨s, 0, none⟩))) := Lib.hid (by
    have : ((w.alloc (.cells #[.pointer (some ⟨s, 0, none⟩)] 23)).alloc (.cells #[.int .i64 c] 3)).heap[w.heap.size]? = some (.cells #[.pointer (some ⟨s, 0, none⟩)] 23 (0, 0)) := by
      rw [Below.heap_alloc _ _ _ (by rw [hx1]; omega)]
      exact heap_alloc_new w _
    unfold World.cell?; rw [this]; rfl)
  have HCX : Hid (((w.alloc (.cells #[.pointer (some ⟨s, 0, none⟩)] 23)).alloc (.cells #[.int .i64 c] 3)).cell? ⟨w.heap.size + 1, 0, none⟩ = some (.int .i64 c)) := Lib.hid (by
    have : ((w.alloc (.cells #[.pointer (some ⟨s, 0, none⟩)] 23)).alloc (.cells #[.int .i64 c] 3)).heap[w.heap.size + 1]? = some (.cells #[.int .i64 c] 3 (0, 0)) := by
      rw [← hx1]; exact heap_alloc_new _ _
    unfold World.cell?; rw [this]; rfl)
  clear h hx1
  go_enter Try.func14, Try.ntmps14
  go_wp2_with (go_at_call 38; (with_reducible refine (found_of (H.out.below HB.out) (fun w' hb' => (of1_tells (H.out.below ((HB.out).trans (hb'.mono (HB.out).size))) _ _ c ((hb'.cell (cell_lt HCM.out)).trans HCM.out) ((hb'.cell (cell_lt HCX.out)).trans HCX.out)).b)).mono ?_); rintro e w3 ⟨v3, rfl, hv3, hb3⟩; have HV3 := Lib.hid hv3; have HB3 := Lib.hid hb3; clear hv3 hb3)
  go_ret
  exact ⟨_, rfl, ownsRow_mono HV3.out HB.out.size, HB.out.trans (HB3.out.mono HB.out.size)⟩
set_option maxRecDepth 100000 in
set_option maxHeartbeats 16000000 in
theorem pt_any {w : World} {s bw bm : Nat} {m : Hp} (h : PM w s bw bm m) (c : Int) : Calls Try.prog 16 #[.pointer (some ⟨s, 0, none⟩), .int .i64 c] w fun e w' => ∃ v, e = .returned v ∧ Ints w' w.heap.size v (if isV m.L c = true then (ptrs m.L).filter (ptP m c) else []) ∧ Below w.heap.size w w' := by
  have H := Lib.hid h
  have hx1 : (w.alloc (.cells #[.pointer (some ⟨s, 0, none⟩)] 23)).heap.size = w.heap.size + 1 := by simp
  have HB : Hid (Below w.heap.size w ((w.alloc (.cells #[.pointer (some ⟨s, 0, none⟩)] 23)).alloc (.cells #[.int .i64 c] 3))) := Lib.hid (((Below.refl _ _).alloc (Nat.le_refl _) _).alloc (by simp) _)
  have HCM : Hid (((w.alloc (.cells #[.pointer (some ⟨s, 0, none⟩)] 23)).alloc (.cells #[.int .i64 c] 3)).cell? ⟨w.heap.size, 0, none⟩ = some (.pointer (some ⟨s, 0, none⟩))) := Lib.hid (by
    have : ((w.alloc (.cells #[.pointer (some ⟨s, 0, none⟩)] 23)).alloc (.cells #[.int .i64 c] 3)).heap[w.heap.size]? = some (.cells #[.pointer (some ⟨s, 0, none⟩)] 23 (0, 0)) := by
      rw [Below.heap_alloc _ _ _ (by rw [hx1]; omega)]
      exact heap_alloc_new w _
    unfold World.cell?; rw [this]; rfl)
  have HCX : Hid (((w.alloc (.cells #[.pointer (some ⟨s, 0, none⟩)] 23)).alloc (.cells #[.int .i64 c] 3)).cell? ⟨w.heap.size + 1, 0, none⟩ = some (.int .i64 c)) := Lib.hid (by
    have : ((w.alloc (.cells #[.pointer (some ⟨s, 0, none⟩)] 23)).alloc (.cells #[.int .i64 c] 3)).heap[w.heap.size + 1]? = some (.cells #[.int .i64 c] 3 (0, 0)) := by
      rw [← hx1]; exact heap_alloc_new _ _
    unfold World.cell?; rw [this]; rfl)
  clear h hx1
  cases hv : isV m.L c
  · have HV := Lib.hid hv
    clear hv
    go_enter Try.func16, Try.ntmps16
    go_wp2_with (go_at_call 41; (with_reducible refine (is_any (H.out.below HB.out) c).mono ?_); rw [HV.out]; rintro e w2 ⟨rfl, n2, hw2⟩; have HB2 : Hid (Below w.heap.size w w2) := Lib.hid (by rw [hw2]; exact below_drewN HB.out _); have cm : w2.cell? ⟨w.heap.size, 0, none⟩ = some (.pointer (some ⟨s, 0, none⟩)) := (by rw [hw2]; exact HCM.out); have cx : w2.cell? ⟨w.heap.size + 1, 0, none⟩ = some (.int .i64 c) := (by rw [hw2]; exact HCX.out); clear hw2)
    go_ret
    exact ⟨_, rfl, World.ownsRow_nil _ _ _ _, HB2.out⟩
  · have HV := Lib.hid hv
    clear hv
    go_enter Try.func16, Try.ntmps16
    go_wp2_with (first | (go_at_call 41; (with_reducible refine (is_any (H.out.below HB.out) c).mono ?_); rw [HV.out]; rintro e w2 ⟨rfl, n2, hw2⟩; have HB2 : Hid (Below w.heap.size w w2) := Lib.hid (by rw [hw2]; exact below_drewN HB.out _); have cm : w2.cell? ⟨w.heap.size, 0, none⟩ = some (.pointer (some ⟨s, 0, none⟩)) := (by rw [hw2]; exact HCM.out); have cx : w2.cell? ⟨w.heap.size + 1, 0, none⟩ = some (.int .i64 c) := (by rw [hw2]; exact HCX.out); clear hw2) | (go_at_call 38; (with_reducible refine (found_pt (H.out.below HB2.out) (fun w' hb' => pt1_tells (H.out.below ((HB2.out).trans (hb'.mono (HB2.out).size))) _ _ c ((hb'.cell (cell_lt cm)).trans cm) ((hb'.cell (cell_lt cx)).trans cx))).mono ?_); rintro e w3 ⟨v3, rfl, hv3, hb3⟩; have HV3 := Lib.hid hv3; have HB3 := Lib.hid hb3; clear hv3 hb3))
    go_ret
    exact ⟨_, rfl, ownsRow_mono HV3.out HB2.out.size, HB2.out.trans (HB3.out.mono HB2.out.size)⟩
set_option maxRecDepth 100000 in
set_option maxHeartbeats 16000000 in
theorem found_nil {w : World} (f : Value) : Calls Try.prog 38 #[.pointer none, f] w fun e w' => e = .returned (.slice none 0 0) ∧ w' = w := by
  go_enter Try.func38, Try.ntmps38
  go_wp2_with fail
  go_ret
  exact ⟨rfl, rfl⟩
theorem of_nil {w : World} (c : Int) : Calls Try.prog 14 #[.pointer none, .int .i64 c] w fun e w' => e = .returned (.slice none 0 0) ∧ Below w.heap.size w w' := by
  have HB : Hid (Below w.heap.size w ((w.alloc (.cells #[.pointer none] 23)).alloc (.cells #[.int .i64 c] 3))) := Lib.hid (((Below.refl _ _).alloc (Nat.le_refl _) _).alloc (by simp) _)
  go_enter Try.func14, Try.ntmps14
  go_wp2_with (go_at_call 38; (with_reducible refine (found_nil _).mono ?_); rintro e w2 ⟨rfl, hw2⟩; replace hw2 := hw2.symm; subst hw2)
  go_ret
  exact ⟨rfl, HB.out⟩
theorem pt_nil {w : World} (c : Int) : Calls Try.prog 16 #[.pointer none, .int .i64 c] w fun e w' => e = .returned (.slice none 0 0) ∧ Below w.heap.size w w' := by
  have HB : Hid (Below w.heap.size w ((w.alloc (.cells #[.pointer none] 23)).alloc (.cells #[.int .i64 c] 3))) := Lib.hid (((Below.refl _ _).alloc (Nat.le_refl _) _).alloc (by simp) _)
  go_enter Try.func16, Try.ntmps16
  go_wp2_with fail
  go_ret
  exact ⟨rfl, HB.out⟩
end Go.Proofs.Ythonodimjglnfaa

/- Chapter 04: who is of a class, who points: the reference. -/
import Derived.Test.YthonodimjglnfaaSD
import Derived.Test.YthonodimjglnfaaRT2
import Derived.Deep.RegionLaw
import Derived.BigQuiet
namespace Go.Proofs.Ythonodimjglnfaa
open Go.ChangeShapes Go.WideShapes Go.ChangeAt Go.RowKit Go.Deep Go.Joins Go.Maps
set_option linter.unusedVariables false
set_option linter.unusedSimpArgs false
theorem robjects_n {w : World} {R : Nat → Prop} {r : Nat} {m : Hp} {lv : Value} {fv : Nat → Value} (h : RM w R r m lv fv) {n : Nat} (hn : (ptrs m.L).length = n) : Calls Try.prog 12 #[.pointer (some ⟨r, 0, none⟩)] w fun e w' => ∃ A c, e = .returned (.slice A n c) ∧ Nums w' A (ptrs m.L) ∧ Below w.heap.size w w' := by
  refine (robjects_any h).mono ?_
  rintro e w' ⟨v, rfl, hv, hb⟩
  obtain ⟨A1, c1, rfl, hc1, hn1, hl1, hm1, hob1⟩ := hv.nums
  rw [hn]
  exact ⟨A1, c1, rfl, hn1, hb⟩
theorem ptr_word {m : Hp} {k : Nat} (hk : k < m.L.length) : (ptrs m.L)[k]'(by simpa [ptrs] using hk) = ptr m.L k := by simp [ptrs]
theorem look_at {m : Hp} {k : Nat} (hk : k < m.L.length) : lookO m.L (ptr m.L k) = m.L[k] := by
  unfold lookO; rw [plc_at hk]; simp [List.getD_eq_getElem?_getD, List.getElem?_eq_getElem hk]
set_option maxRecDepth 100000 in
set_option maxHeartbeats 16000000 in
theorem rof_any {w : World} {R : Nat → Prop} {r : Nat} {m : Hp} {lv : Value} {fv : Nat → Value} (h : RM w R r m lv fv) (c : Int) : Calls Try.prog 15 #[.pointer (some ⟨r, 0, none⟩), .int .i64 c] w fun e w' => ∃ v, e = .returned v ∧ Ints w' w.heap.size v (ofV m c) ∧ Below w.heap.size w w' := by
  obtain ⟨i0, hi, hz0, hz1, hz2⟩ := info_parts infoI
  have H := Lib.hid h
  obtain ⟨n, hn⟩ : ∃ n, (ptrs m.L).length = n := ⟨_, rfl⟩
  have hnb : n ≤ 131072 := by rw [← hn]; exact ptrs_len h.good
  have HPN := Lib.hid hn
  have HLN : Hid (m.L.length = n) := Lib.hid (by rw [← hn]; simp [ptrs])
  unfold ofV
  clear h hn
  go_enter Try.func15, Try.ntmps15
  go_wp2_with (go_at_call 12; (with_reducible refine (robjects_n H.out HPN.out).mono ?_); rintro e w1 ⟨A1, c1, rfl, hn1, hb1⟩; have HN1 := Lib.hid hn1; have HB1 : Hid (Below w.heap.size w w1) := Lib.hid (hb1); clear hn1 hb1)
  go_loopw [5, 7] (fun v i wr => ∃ (v0 : Value) (k q : Nat), v0 = v ∧ k ≤ n ∧ q ≤ k ∧ i = .int .i64 k ∧ wr.ownsRow w1.heap.size 3 1 v0 q ((((ptrs m.L).take k).filter (ofP m c)).map (Value.int .i64)) ∧ Below w1.heap.size w1 wr) (fun _ i _ => n - (intOf i).toNat)
  case atStart => exact ⟨_, 0, 0, rfl, Nat.zero_le _, Nat.le_refl _, rfl, World.ownsRow_nil _ _ _ _, Below.refl _ _⟩
  case round =>
    obtain ⟨v0, k, q, hv0, hk, hqk, rfl, hown, hbw⟩ := hrel
    subst hv0
    have HOWN := Lib.hid hown
    have HBW := Lib.hid hbw
    by_cases hlt : k < n
    · have d1 : decide (k < n) = true := decide_eq_true hlt
      have hkl : k < (ptrs m.L).length := by rw [HPN.out]; exact hlt
      have hkL : k < m.L.length := by simpa [ptrs] using hkl
      have HQ := Lib.hid (H.out.below (HB1.out.trans (hbw.mono HB1.out.size)))
      have c2 := HQ.out.c2
      obtain ⟨LA, lc, hlv, hlc, hobj⟩ := HQ.out.list
      obtain ⟨lg, rfl, e0, e1, e2, e3⟩ := hobj k hkL
      rw [hlv, HLN.out] at c2
      rw [HLN.out] at hlc
      obtain ⟨FA, fc, hfv, hfc, hfj⟩ := HQ.out.field hkL
      obtain ⟨o, ho⟩ : ∃ o, m.L[k] = o := ⟨_, rfl⟩
      have HO := Lib.hid ho
      rw [ho] at e0 e1 e2 hfc hfv
      rw [hfv] at e3
      obtain ⟨ag, aoff, rfl, hgl, hc⟩ := HN1.out.below hbw k hkl
      obtain ⟨x, hx⟩ : ∃ x, (ptrs m.L)[k] = x := ⟨_, rfl⟩
      have HX := Lib.hid hx
      have HLO : Hid (lookO m.L x = o) := Lib.hid (by rw [← hx, ptr_word hkL, look_at hkL, ho])
      rw [hx] at hc
      have g0 : (0 : Int) ≤ (k : Int) := by omega
      have g1 : (k : Int) < (n : Int) := by omega
      obtain ⟨cl, hcl⟩ : ∃ z, o.cls = z := ⟨_, rfl⟩
      rw [hcl] at e0
      have HOWN2 := HOWN
      have HB2 := HBW
      by_cases hcc : cl = c
      · have y0 : (cl == c) = true := by simpa using hcc
        have HV : Hid (ofP m c x = true) := Lib.hid (by unfold ofP; rw [HLO.out, hcl]; exact y0)
        clear hx hown hbw hgl hobj hlv hfv hfj hfc ho hcl hcc e1 e2 e3
        go_wp2_with (at_builtin; refine wpList_append_own _ rfl _ _ 28 rfl w1.heap.size 3 i0 (.int .i64 0) 1 8 Try.underlying28 hi hz0 hz1 hz2 rfl (by decide) _ _ _ rfl (HOWN2.out.alloc _) ⟨wr.heap.size, 0, none⟩ 1 1 [.int .i64 x] rfl rfl (cells_newN _ _ _ _ (by simp)) (by simp [Value.oneCell']) (by unfold maxLen; omega) (by omega) (by have := HB2.out.size; simp only [World.size_alloc]; omega) ?_; intro v2 w3 hown3 hg2 _)
        go_roundw
        case rel =>
          have hz2 := HB2.out.size
          refine ⟨_, k + 1, q + 1, rfl, by omega, by omega, by go_num, ?_, (HB2.out.alloc hz2 _).trans (below_of_append (HOWN2.out.alloc (.cells #[.int .i64 x] 3)) hg2 (by simp only [World.size_alloc]; omega))⟩
          rw [filter_take_yes hkl (by rw [HX.out]; exact HV.out), HX.out, List.map_append]
          exact hown3
        case measure => simp [intOf]; omega
      · have y0 : (cl == c) = false := by simpa using hcc
        have HV : Hid (ofP m c x = false) := Lib.hid (by unfold ofP; rw [HLO.out, hcl]; exact y0)
        clear hx hown hbw hgl hobj hlv hfv hfj hfc ho hcl hcc e1 e2 e3
        go_wp2_with fail
        go_roundw
        case rel => exact ⟨_, k + 1, q, rfl, by omega, by omega, by go_num, by rw [filter_take_no hkl (by rw [HX.out]; exact HV.out)]; exact HOWN2.out, HB2.out⟩
        case measure => simp [intOf]; omega
    · have hkn : k = n := by omega
      have d1 : decide (k < n) = false := decide_eq_false hlt
      clear hlt hown hbw
      subst hkn
      go_wp2_with fail
      go_ret
      have ho := HOWN.out
      rw [← HPN.out, List.take_length] at ho
      have hl : ((ptrs m.L).filter (ofP m c)).length = q := by have := ho.1; simpa using this
      refine ⟨_, rfl, ?_, HB1.out.trans (HBW.out.mono HB1.out.size)⟩
      unfold Ints
      rw [hl]
      exact ownsRow_mono ho HB1.out.size
set_option maxRecDepth 100000 in
set_option maxHeartbeats 16000000 in
theorem rpt_any {w : World} {R : Nat → Prop} {r : Nat} {m : Hp} {lv : Value} {fv : Nat → Value} (h : RM w R r m lv fv) (c : Int) : Calls Try.prog 17 #[.pointer (some ⟨r, 0, none⟩), .int .i64 c] w fun e w' => ∃ v, e = .returned v ∧ Ints w' w.heap.size v (if isV m.L c = true then (ptrs m.L).filter (ptP m c) else []) ∧ Below w.heap.size w w' := by
  obtain ⟨i0, hi, hz0, hz1, hz2⟩ := info_parts infoI
  have H := Lib.hid h
  obtain ⟨n, hn⟩ : ∃ n, (ptrs m.L).length = n := ⟨_, rfl⟩
  have hnb : n ≤ 131072 := by rw [← hn]; exact ptrs_len h.good
  have HPN := Lib.hid hn
  have HLN : Hid (m.L.length = n) := Lib.hid (by rw [← hn]; simp [ptrs])
  obtain ⟨pv, hpv⟩ : ∃ pv, plcV m.L c = pv := ⟨_, rfl⟩
  have HPV := Lib.hid hpv
  cases hv : isV m.L c
  · have p0 : decide (pv < 0) = true := by rw [← hpv]; exact decide_eq_true (plcV_neg.2 hv)
    clear h hn hv hpv
    go_enter Try.func17, Try.ntmps17
    go_wp2_with (go_at_call 44; (with_reducible refine (rplace_any H.out c).mono ?_); rw [HPV.out]; rintro e w6 ⟨rfl, hw6⟩; replace hw6 := hw6.symm; subst hw6)
    go_ret
    exact ⟨_, rfl, World.ownsRow_nil _ _ _ _, Below.refl _ _⟩
  · have p0 : decide (pv < 0) = false := by rw [← hpv]; exact decide_eq_false (fun q => by rw [plcV_neg.1 q] at hv; cases hv)
    rw [if_pos rfl]
    clear h hn hv hpv
    go_enter Try.func17, Try.ntmps17
    go_wp2_with (first | (go_at_call 44; (with_reducible refine (rplace_any H.out c).mono ?_); rw [HPV.out]; rintro e w6 ⟨rfl, hw6⟩; replace hw6 := hw6.symm; subst hw6) | (go_at_call 12; (with_reducible refine (robjects_n H.out HPN.out).mono ?_); rintro e w1 ⟨A1, c1, rfl, hn1, hb1⟩; have HN1 := Lib.hid hn1; have HB1 : Hid (Below w.heap.size w w1) := Lib.hid (hb1); clear hn1 hb1))
    go_loopw [5, 7] (fun v i wr => ∃ (v0 : Value) (k q : Nat), v0 = v ∧ k ≤ n ∧ q ≤ k ∧ i = .int .i64 k ∧ wr.ownsRow w1.heap.size 3 1 v0 q ((((ptrs m.L).take k).filter (ptP m c)).map (Value.int .i64)) ∧ Below w1.heap.size w1 wr) (fun _ i _ => n - (intOf i).toNat)
    case atStart => exact ⟨_, 0, 0, rfl, Nat.zero_le _, Nat.le_refl _, rfl, World.ownsRow_nil _ _ _ _, Below.refl _ _⟩
    case round =>
      obtain ⟨v0, k, q, hv0, hk, hqk, rfl, hown, hbw⟩ := hrel
      subst hv0
      have HOWN := Lib.hid hown
      have HBW := Lib.hid hbw
      by_cases hlt : k < n
      · have d1 : decide (k < n) = true := decide_eq_true hlt
        have hkl : k < (ptrs m.L).length := by rw [HPN.out]; exact hlt
        have hkL : k < m.L.length := by simpa [ptrs] using hkl
        have HQ := Lib.hid (H.out.below (HB1.out.trans (hbw.mono HB1.out.size)))
        have c2 := HQ.out.c2
        obtain ⟨LA, lc, hlv, hlc, hobj⟩ := HQ.out.list
        obtain ⟨lg, rfl, e0, e1, e2, e3⟩ := hobj k hkL
        rw [hlv, HLN.out] at c2
        rw [HLN.out] at hlc
        obtain ⟨FA, fc, hfv, hfc, hfj⟩ := HQ.out.field hkL
        obtain ⟨o, ho⟩ : ∃ o, m.L[k] = o := ⟨_, rfl⟩
        have HO := Lib.hid ho
        rw [ho] at e0 e1 e2 hfc hfv
        rw [hfv] at e3
        obtain ⟨ag, aoff, rfl, hgl, hc⟩ := HN1.out.below hbw k hkl
        obtain ⟨x, hx⟩ : ∃ x, (ptrs m.L)[k] = x := ⟨_, rfl⟩
        have HX := Lib.hid hx
        have HLO : Hid (lookO m.L x = o) := Lib.hid (by rw [← hx, ptr_word hkL, look_at hkL, ho])
        rw [hx] at hc
        have g0 : (0 : Int) ≤ (k : Int) := by omega
        have g1 : (k : Int) < (n : Int) := by omega
        obtain ⟨cl, hcl⟩ : ∃ z, o.cls = z := ⟨_, rfl⟩
        obtain ⟨fm, hfm⟩ : ∃ z, o.fmt = z := ⟨_, rfl⟩
        obtain ⟨hs, hhs⟩ : ∃ z, o.hash = z := ⟨_, rfl⟩
        obtain ⟨nf, hnf⟩ : ∃ z, o.F.length = z := ⟨_, rfl⟩
        have hfl : nf ≤ 256 := by rw [← hnf, ← ho]; exact H.out.good.len _ (List.getElem_mem hkL)
        rw [hcl] at e0
        rw [hfm] at e1
        rw [hhs] at e2
        rw [hnf] at e3 hfc
        have HF : Hid (Nums wr FA o.F) := Lib.hid (fun j hj => by
          obtain ⟨gg, eg, hcg, _⟩ := hfj j (by rw [ho]; exact hj)
          refine ⟨gg, 0, eg, cell_lt hcg, ?_⟩
          rw [Nat.zero_add, hcg, ho, List.getD_eq_getElem?_getD, List.getElem?_eq_getElem hj]; rfl)
        have HNF := Lib.hid hnf
        have HPP : Hid (ptP m c x = ((cl == c) || ((fm == 0) && o.F.contains c))) := Lib.hid (by unfold ptP; rw [HLO.out, hcl, hfm])
        clear hobj hlv hfv hfj ho hcl hfm hhs hnf hx hown hbw hgl
        go_upto_region 9 with fail
        obtain ⟨wx, hwx⟩ : ∃ wx, wr.alloc (.cells #[.int .i64 cl, .int .i64 fm, .int .i64 hs, .slice FA nf fc] 46) = wx := ⟨_, rfl⟩
        rw [hwx]
        have hbx : Below wr.heap.size wr wx := by rw [← hwx]; exact (Below.refl _ _).alloc (Nat.le_refl _) _
        have hhx : wx.heap[wr.heap.size]? = some (.cells #[.int .i64 cl, .int .i64 fm, .int .i64 hs, .slice FA nf fc] 46 (0, 0)) := by rw [← hwx]; exact (MapKept.heap_alloc wr _).1
        obtain ⟨bb, hbb⟩ : ∃ bb, wr.heap.size = bb := ⟨_, rfl⟩
        rw [hbb] at hhx ⊢
        have b0 : wx.cell? ⟨bb, 0, none⟩ = some (.int .i64 cl) := by simp [World.cell?, hhx]
        have b1 : wx.cell? ⟨bb, 1, none⟩ = some (.int .i64 fm) := by simp [World.cell?, hhx]
        have b3 : wx.cell? ⟨bb, 3, none⟩ = some (.slice FA nf fc) := by simp [World.cell?, hhx]
        have ha := (hbx.cell (cell_lt hc)).trans hc
        have HB2 : Hid (Below w1.heap.size w1 wx) := Lib.hid (HBW.out.trans (hbx.mono HBW.out.size))
        have HOWN2 := Lib.hid (ownsRow_below HOWN.out hbx)
        have HFX := Lib.hid (HF.out.below hbx)
        clear hhx hbb hwx hbx c2 e0 e1 e2 e3 hc
        obtain ⟨av, hav⟩ : ∃ av, findV o.F c = av := ⟨_, rfl⟩
        have hfh := findV_has o.F c
        rw [hav] at hfh
        have HAT : Hid (Calls Try.prog 45 #[.slice FA nf fc, .int .i64 c] wx fun e w' => e = .returned (.int .i64 av) ∧ w' = wx) := Lib.hid (by rw [← hav]; exact at_of HFX.out HNF.out (by omega) c)
        clear hav
        by_cases hcc : cl = c
        · have y0 : (cl == c) = true := by simpa using hcc
          have HV : Hid (ptP m c x = true) := Lib.hid (by rw [HPP.out, y0]; rfl)
          clear hcc
          go_wp2_with (at_builtin; refine wpList_append_own _ rfl _ _ 28 rfl w1.heap.size 3 i0 (.int .i64 0) 1 8 Try.underlying28 hi hz0 hz1 hz2 rfl (by decide) _ _ _ rfl (HOWN2.out.alloc _) ⟨wx.heap.size, 0, none⟩ 1 1 [.int .i64 x] rfl rfl (cells_newN _ _ _ _ (by simp)) (by simp [Value.oneCell']) (by unfold maxLen; omega) (by omega) (by have := HB2.out.size; simp only [World.size_alloc]; omega) ?_; intro v2 w3 hown3 hg2 _)
          go_roundw
          case rel =>
            have hz2 := HB2.out.size
            refine ⟨_, k + 1, q + 1, rfl, by omega, by omega, by go_num, ?_, (HB2.out.alloc hz2 _).trans (below_of_append (HOWN2.out.alloc (.cells #[.int .i64 x] 3)) hg2 (by simp only [World.size_alloc]; omega))⟩
            rw [filter_take_yes hkl (by rw [HX.out]; exact HV.out), HX.out, List.map_append]
            exact hown3
          case measure => simp [intOf]; omega
        · have y0 : (cl == c) = false := by simpa using hcc
          by_cases hf0 : fm = 0
          · have y1 : (fm == 0) = true := by simpa using hf0
            cases hin : o.F.contains c
            · have q0 : decide (0 ≤ av) = false := by rw [hfh]; exact hin
              have HV : Hid (ptP m c x = false) := Lib.hid (by rw [HPP.out, y0, y1, hin]; rfl)
              clear hcc hf0 hin hfh
              go_wp2_with (go_at_call 45; (with_reducible refine HAT.out.mono ?_); rintro e w6 ⟨rfl, hw6⟩; replace hw6 := hw6.symm; subst hw6)
              go_roundw
              case rel => exact ⟨_, k + 1, q, rfl, by omega, by omega, by go_num, by rw [filter_take_no hkl (by rw [HX.out]; exact HV.out)]; exact HOWN2.out, HB2.out⟩
              case measure => simp [intOf]; omega
            · have q0 : decide (0 ≤ av) = true := by rw [hfh]; exact hin
              have HV : Hid (ptP m c x = true) := Lib.hid (by rw [HPP.out, y0, y1, hin]; rfl)
              clear hcc hf0 hin hfh
              go_wp2_with (first | (go_at_call 45; (with_reducible refine HAT.out.mono ?_); rintro e w6 ⟨rfl, hw6⟩; replace hw6 := hw6.symm; subst hw6) | (at_builtin; refine wpList_append_own _ rfl _ _ 28 rfl w1.heap.size 3 i0 (.int .i64 0) 1 8 Try.underlying28 hi hz0 hz1 hz2 rfl (by decide) _ _ _ rfl (HOWN2.out.alloc _) ⟨wx.heap.size, 0, none⟩ 1 1 [.int .i64 x] rfl rfl (cells_newN _ _ _ _ (by simp)) (by simp [Value.oneCell']) (by unfold maxLen; omega) (by omega) (by have := HB2.out.size; simp only [World.size_alloc]; omega) ?_; intro v2 w3 hown3 hg2 _))
              go_roundw
              case rel =>
                have hz2 := HB2.out.size
                refine ⟨_, k + 1, q + 1, rfl, by omega, by omega, by go_num, ?_, (HB2.out.alloc hz2 _).trans (below_of_append (HOWN2.out.alloc (.cells #[.int .i64 x] 3)) hg2 (by simp only [World.size_alloc]; omega))⟩
                rw [filter_take_yes hkl (by rw [HX.out]; exact HV.out), HX.out, List.map_append]
                exact hown3
              case measure => simp [intOf]; omega
          · have y1 : (fm == 0) = false := by simpa using hf0
            have HV : Hid (ptP m c x = false) := Lib.hid (by rw [HPP.out, y0, y1]; rfl)
            clear hcc hf0 hfh
            go_wp2_with fail
            go_roundw
            case rel => exact ⟨_, k + 1, q, rfl, by omega, by omega, by go_num, by rw [filter_take_no hkl (by rw [HX.out]; exact HV.out)]; exact HOWN2.out, HB2.out⟩
            case measure => simp [intOf]; omega
      · have hkn : k = n := by omega
        have d1 : decide (k < n) = false := decide_eq_false hlt
        clear hlt hown hbw
        subst hkn
        go_wp2_with fail
        go_ret
        have ho := HOWN.out
        rw [← HPN.out, List.take_length] at ho
        have hl : ((ptrs m.L).filter (ptP m c)).length = q := by have := ho.1; simpa using this
        refine ⟨_, rfl, ?_, HB1.out.trans (HBW.out.mono HB1.out.size)⟩
        unfold Ints
        rw [hl]
        exact ownsRow_mono ho HB1.out.size
end Go.Proofs.Ythonodimjglnfaa

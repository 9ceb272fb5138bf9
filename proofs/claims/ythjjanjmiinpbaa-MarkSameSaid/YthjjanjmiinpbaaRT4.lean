/- Chapter 02: the contract of the reference's Keep. -/
import Derived.Test.YthjjanjmiinpbaaRT3
import Derived.StillTailTactics
namespace Go.Proofs.Ythjjanjmiinpbaa
open Go.ChangeShapes Go.WideShapes Go.ChangeAt Go.RowKit Go.Deep Go.Joins Go.Maps
set_option linter.unusedVariables false
set_option linter.unusedSimpArgs false

set_option maxRecDepth 1000000 in
set_option maxHeartbeats 40000000 in
theorem rkeep_any {w : World} {R : Nat → Prop} {r : Nat} {m : Hp} {lv : Value} {fv : Nat → Value} (h : RM w R r m lv fv) {A : Option Addr} {l : List Int} {ca : Nat} (hA : Nums w A l) (hla : l.length ≤ ca) (hll : l.length ≤ 1000000) :
    Calls Try.prog 56 #[.pointer (some ⟨r, 0, none⟩), .slice A l.length ca] w (RKeepPost R r m l w) := by
  obtain ⟨i0, hi, hz0, hz1, hz2⟩ := info_parts infoI
  obtain ⟨j0, hj, hy0, hy1, hy2⟩ := info_parts infoO
  have H := Lib.hid h
  have HA := Lib.hid hA
  obtain ⟨n, hn⟩ : ∃ n, l.length = n := ⟨_, rfl⟩
  have HN := Lib.hid hn
  rw [hn] at hla hll ⊢
  have HFL : Hid (∀ w' : World, Below w.heap.size w w' → ∀ x, Calls Try.prog 68 #[.slice A n ca, .int .i64 x] w' fun e w'' => e = .returned (.int .i64 (findV l x)) ∧ w'' = w') := fun w' hb x => by have := find_any (c := ca) (hA.below hb) (by omega) x; rw [hn] at this; exact this
  clear h hA hn
  go_enter Try.func56, Try.ntmps56
  go_wp2_with fail
  go_loopw [6] (fun i wr => ∃ k : Nat, k ≤ n ∧ i = .int .i64 k ∧ distinct (l.take k) = true ∧ (l.take k).all (isV m.L) = true ∧ ∃ d, wr = w.drewN d) (fun i _ => n - (intOf i).toNat)
  case atStart => exact ⟨0, Nat.zero_le _, rfl, rfl, rfl, 0, rfl⟩
  case round =>
    obtain ⟨k, hk, rfl, hdis, hav, d, hwr⟩ := hrel
    have HWR := Lib.hid hwr
    have HRr : Hid (RM wr R r m lv fv) := by rw [hwr]; exact H.out.drewN d
    have HAr : Hid (Nums wr A l) := by rw [hwr]; exact HA.out.drewN d
    have HTr : Hid (Turns R w wr) := by rw [hwr]; exact (Turns.refl _ _).drewN d
    have HBb : Hid (Below w.heap.size w wr) := by rw [hwr]; exact below_drewN (Below.refl _ _) d
    have HDIS := Lib.hid hdis
    have HAV := Lib.hid hav
    have hsz0 : wr.heap.size = w.heap.size := by rw [hwr]; rfl
    have HSZ0 := Lib.hid hsz0
    clear hwr hdis hav hsz0
    by_cases hlt : k < n
    · have d0 : decide (k < n) = true := decide_eq_true hlt
      have hkf : k < l.length := by rw [HN.out]; exact hlt
      obtain ⟨ga, offa, rfl, hgl, hca⟩ := HAr.out k hkf
      obtain ⟨x, hx⟩ : ∃ x, l[k] = x := ⟨_, rfl⟩
      have HX := Lib.hid hx
      rw [hx] at hca
      obtain ⟨p1, hp1⟩ : ∃ p, plcV m.L x = p := ⟨_, rfl⟩
      obtain ⟨z, hz⟩ : ∃ z, findV (l.take k) x = z := ⟨_, rfl⟩
      have HP1 : Hid (∀ e, Calls Try.prog 58 #[.pointer (some ⟨r, 0, none⟩), .int .i64 x] (wr.drewN e) fun e' w' => e' = .returned (.int .i64 p1) ∧ w' = wr.drewN e) := fun e => by have := rplace_any (HRr.out.drewN e) x; rw [hp1] at this; exact this
      have htk : (l.take k).length = k := by simp; omega
      have HFD : Hid (∀ e, Calls Try.prog 68 #[.slice (some ⟨ga, offa, none⟩) k ca, .int .i64 x] (wr.drewN e) fun e' w' => e' = .returned (.int .i64 z) ∧ w' = wr.drewN e) := fun e => by
        have := find_any (c := ca) ((HAr.out.drewN e).take k) (by rw [htk]; omega) x
        rw [hz, htk] at this; exact this
      have hsl := fun w' => slice_pre (some ⟨ga, offa, none⟩) n ca k (by omega) ⟨ga, offa, rfl⟩ w'
      have g0 : (0 : Int) ≤ (k : Int) := by omega
      have g1 : (k : Int) < (n : Int) := by omega
      cases hvx : isV m.L x
      · have z1 : decide (p1 < 0) = true := decide_eq_true (by rw [← hp1]; exact plcV_neg.2 hvx)
        have HV : Hid (keepV m l = (m, [], 1)) := by
          show _ = _
          unfold keepV keepOk
          rw [all_take_no hkf (by rw [hx]; exact hvx)]; rfl
        clear hx hp1 hz htk hvx
        --<a
        go_wp2_with fail
        go_quiet ((first | (go_at_call_of 58 (Value.int .i64 x); exact Calls.quiet_of_same (HP1.out _)) | (go_at_call 68; exact Calls.quiet_of_same (HFD.out _))))
        go_wp2_with fail
        go_ret2
        exact rkeep_no HV.out (HRr.out.drewN _) (HTr.out.drewN _)
        -->a
      have q1 : ¬ p1 < 0 := by rw [← hp1]; intro q; rw [plcV_neg.1 q] at hvx; cases hvx
      have z1 : decide (p1 < 0) = false := decide_eq_false q1
      by_cases hin : x ∈ l.take k
      · obtain ⟨j, _, _, hfv⟩ := findV_some hin
        have z3 : decide (0 ≤ z) = true := decide_eq_true (by rw [← hz, hfv]; omega)
        have HV : Hid (keepV m l = (m, [], 1)) := by
          show _ = _
          unfold keepV keepOk
          rw [distinct_take_no hkf (by rw [hx]; exact hin)]; simp
        clear hx hp1 hz htk hvx hin hfv
        --<b
        go_wp2_with fail
        go_quiet ((first | (go_at_call_of 58 (Value.int .i64 x); exact Calls.quiet_of_same (HP1.out _)) | (go_at_call 68; exact Calls.quiet_of_same (HFD.out _))))
        go_wp2_with fail
        go_ret2
        exact rkeep_no HV.out (HRr.out.drewN _) (HTr.out.drewN _)
        -->b
      · have z3 : decide (0 ≤ z) = false := decide_eq_false (by rw [← hz, findV_none hin]; omega)
        have HD2 := Lib.hid (distinct_take_succ hkf (by rw [hx]; exact hin) HDIS.out)
        have HA2 := Lib.hid (all_take_succ hkf (by rw [hx]; exact hvx) HAV.out)
        clear hx hp1 hz htk hvx hin
        --<c
        go_wp2_with fail
        go_quiet ((first | (go_at_call_of 58 (Value.int .i64 x); exact Calls.quiet_of_same (HP1.out _)) | (go_at_call 68; exact Calls.quiet_of_same (HFD.out _))))
        go_wp2_with fail
        go_roundw
        case rel => exact ⟨k + 1, by omega, by go_num, HD2.out, HA2.out, _, by rw [HWR.out, World.drewN_drewN]⟩
        case measure => simp [intOf]; omega
        -->c
    · have hkn : k = n := by omega
      have d0 : decide (k < n) = false := decide_eq_false hlt
      clear hlt
      subst hkn
      have hdis : distinct l = true := by have := HDIS.out; rw [← HN.out, List.take_length] at this; exact this
      have hav : l.all (isV m.L) = true := by have := HAV.out; rw [← HN.out, List.take_length] at this; exact this
      have HDI := Lib.hid hdis
      have HAL := Lib.hid hav
      have hob := robjects_any HRr.out
      have HOB := Lib.hid hob
      clear hdis hav hob
      --<d
      go_upto_region 7 with (go_at_call 12; (with_reducible refine HOB.out.mono ?_); rintro e W ⟨ov, rfl, hov, hbW⟩; have HOV := Lib.hid hov; have HBW := Lib.hid hbW; clear hov hbW)
      have hRW := HRr.out.below HBW.out
      have wr0 := hRW.c0
      have wr1 := hRW.c1
      refine wp_region_still_tail 9 (by kernel_rfl) (by kernel_rfl) ?_
      simp only [List.take_succ_cons, List.take_zero, List.drop_succ_cons, List.drop_zero]
      repeat still_step
      refine wpStill_nil ?_
      change wpList _ _ _ _ _ W.drew
      go_wp2_with fail
      obtain ⟨W2, hW2⟩ : ∃ W2, (W.alloc (.cells #[.int .i64 (m.size : Int), .int .i64 (m.made : Int), .slice none 0 0] 59)).drew = W2 := ⟨_, rfl⟩
      have hbW2 : Below W.heap.size W W2 := by rw [← hW2]; exact below_drewN ((Below.refl _ _).alloc (Nat.le_refl _) _) 1
      have hnb : W2.heap[W.heap.size]? = some (.cells #[.int .i64 (m.size : Int), .int .i64 (m.made : Int), .slice none 0 0] 59 (0, 0)) := by rw [← hW2]; exact heap_alloc_new W _
      have hsz2 : W2.heap.size = W.heap.size + 1 := by rw [← hW2]; simp
      rw [hW2]
      have hww : w.heap.size ≤ W.heap.size := Nat.le_trans HBb.out.size HBW.out.size
      have hRlt : ∀ b, R b → b < W.heap.size := fun b hb => Nat.lt_of_lt_of_le (H.out.lt b hb) hww
      have hks : KS W R m l fv 0 (.slice none 0 0) W2 := ⟨hbW2, ⟨.slice none 0 0, fv, hnb, by rw [keptTo_zero]; exact LM.nil _ _ _ (fun b hb => by rcases hb with q | q; exact Nat.lt_of_lt_of_le (hRlt b q) hbW2.size; exact q.2), (fun b hb => by cases hb), fun i hi => absurd hi (by simp [keptTo_zero])⟩, World.ownsRow_nil _ _ _ _, rfl⟩
      have HKS := Lib.hid hks
      have HRW := Lib.hid hRW
      have HRLT := Lib.hid hRlt
      have HbW : Hid (Below w.heap.size w W) := HBb.out.trans (HBW.out.mono HBb.out.size)
      obtain ⟨OA, oc, rfl, hoc, hon, hoa, hom, _⟩ := HOV.out.nums
      obtain ⟨nl, hnl⟩ : ∃ nl, m.L.length = nl := ⟨_, rfl⟩
      have HNL := Lib.hid hnl
      have hnlb := len_bd H.out.good
      rw [hnl] at hnlb
      have hpl : (ptrs m.L).length = nl := by unfold ptrs; simp [hnl]
      have HPL := Lib.hid hpl
      have HON := Lib.hid hon
      rw [hpl] at hoc ⊢
      clear hW2 hbW2 hnb hsz2 hRlt hks hRW wr0 wr1 hnl hpl hon hoa HOV
      go_wp2_with fail
      go_loopw [9, 10] (fun kv i wr => ∃ (k2 : Nat) (kv2 : Value), k2 ≤ nl ∧ i = .int .i64 k2 ∧ kv2 = kv ∧ KS W R m l fv k2 kv2 wr) (fun _ i _ => nl - (intOf i).toNat)
      case atStart => exact ⟨0, _, Nat.zero_le _, rfl, rfl, HKS.out⟩
      case round =>
        obtain ⟨k2, kv, hk2, rfl, rfl, hbw, ⟨lvn, fvn, hnb, hlm, hlb, hfj⟩, hkv, hft⟩ := hrel
        have HBW2 := Lib.hid hbw
        have HNB := Lib.hid hnb
        have HLM := Lib.hid hlm
        have HLB := Lib.hid hlb
        have HFJ := Lib.hid hfj
        have HKV := Lib.hid hkv
        have HFT := Lib.hid hft
        have hRM := HRW.out.below hbw
        have HRM := Lib.hid hRM
        have hws := hbw.size
        have hnbl := lt_of_block hnb
        obtain ⟨A2, cL, hlv, hcL, hobj⟩ := hRM.list
        rw [HNL.out] at hlv hcL
        have cr := hRM.c2
        rw [hlv] at cr
        have hbb := HbW.out.trans (hbw.mono hww)
        have HBB := Lib.hid hbb
        by_cases hlt : k2 < nl
        · have d1 : decide (k2 < nl) = true := decide_eq_true hlt
          have hkl : k2 < m.L.length := by rw [HNL.out]; exact hlt
          obtain ⟨g, rfl, o0, o1, o2, o3⟩ := hobj k2 hkl
          obtain ⟨go_, offo, rfl, hgo, hco⟩ := (HON.out.below hbw) k2 (by rw [HPL.out]; exact hlt)
          have hgoW : go_ < W.heap.size := HON.out.lt0 (by rw [HPL.out]; omega) go_ offo rfl
          have hpe : (ptrs m.L)[k2]'(by rw [HPL.out]; exact hlt) = ptr m.L k2 := by simp [ptrs]
          rw [hpe] at hco
          obtain ⟨po, hpo⟩ : ∃ po, ptr m.L k2 = po := ⟨_, rfl⟩
          have HPO := Lib.hid hpo
          rw [hpo] at hco
          obtain ⟨z, hz⟩ : ∃ z, findV l po = z := ⟨_, rfl⟩
          have HFO : Hid (Calls Try.prog 68 #[.slice A k ca, .int .i64 po] wr fun e w'' => e = .returned (.int .i64 z) ∧ w'' = wr) := by have := HFL.out wr hbb po; rw [hz] at this; exact this
          have hzk : decide (z < 0) = !kp m.L l k2 := by rw [← hz, ← hpo]; exact findV_neg
          have g0 : (0 : Int) ≤ (k2 : Int) := by omega
          have g1 : (k2 : Int) < (nl : Int) := by omega
          cases hy : kp m.L l k2
          · have z1 : decide (z < 0) = true := by rw [hzk, hy]; rfl
            have HY := Lib.hid hy
            clear hbw hnb hlm hlb hfj hkv hft hRM hobj hlv hbb hpe hpo hz hzk hy
            --<e
            go_wp2_with (go_at_call 68; (with_reducible refine HFO.out.mono ?_); rintro e w8 ⟨rfl, hw8⟩; replace hw8 := hw8.symm; subst hw8)
            go_roundw
            case rel =>
              refine ⟨k2 + 1, kv, by omega, by go_num, rfl, HBW2.out, ⟨lvn, fvn, HNB.out, ?_, HLB.out, ?_⟩, ?_, ?_⟩
              · rw [keptTo_succ hkl, HY.out]; exact HLM.out
              · rw [keptTo_succ hkl, HY.out]; exact fun i hi => by obtain ⟨j, hj1, hj2⟩ := HFJ.out i hi; exact ⟨j, by omega, hj2⟩
              · rw [kptr_succ, HY.out]; exact HKV.out
              · rw [fitsTo_succ hkl, HY.out]; exact HFT.out
            case measure => simp [intOf]; omega
            -->e
          · have z1 : decide (z < 0) = false := by rw [hzk, hy]; rfl
            have HY := Lib.hid hy
            obtain ⟨o, ho⟩ : ∃ o, m.L[k2] = o := ⟨_, rfl⟩
            have HO := Lib.hid ho
            have hob := hRM.objV hkl
            have hff := H.out.good.fmt _ (List.getElem_mem hkl)
            have hfl := H.out.good.len _ (List.getElem_mem hkl)
            have hwdI := words_InI H.out.good (List.getElem_mem hkl)
            rw [ho] at o0 o1 o2 hob hff hfl hwdI
            obtain ⟨fk, hfk⟩ : ∃ fk, fv k2 = fk := ⟨_, rfl⟩
            have HFK := Lib.hid hfk
            rw [hfk] at o3 hob
            have hfsl : ∃ FA fc, fk = .slice FA o.F.length fc := by
              rcases hob with ⟨e, e2⟩ | ⟨g', c', e, _⟩
              · exact ⟨none, 0, by rw [e, e2]; rfl⟩
              · exact ⟨_, _, e⟩
            obtain ⟨FA, fc, hfs⟩ := hfsl
            have HFS := Lib.hid hfs
            rw [hfs] at o3
            have HOBJ := Lib.hid hob
            have HWDI := Lib.hid hwdI
            clear hbw hnb hlm hlb hfj hkv hft hRM hobj hlv hbb hpe hpo hz hzk hy ho hob hfk hfs hwdI
            --<f
            go_upto_region 14 with (go_at_call 68; (with_reducible refine HFO.out.mono ?_); rintro e w8 ⟨rfl, hw8⟩; replace hw8 := hw8.symm; subst hw8)
            obtain ⟨wa, hwa⟩ : ∃ wa, wr.alloc (.cells #[.int .i64 o.cls, .int .i64 o.fmt, .int .i64 o.hash, .slice FA o.F.length fc] 71) = wa := ⟨_, rfl⟩
            have hba : Below wr.heap.size wr wa := by rw [← hwa]; exact (Below.refl _ _).alloc (Nat.le_refl _) _
            have hxa : wa.heap[wr.heap.size]? = some (.cells #[.int .i64 o.cls, .int .i64 o.fmt, .int .i64 o.hash, .slice FA o.F.length fc] 71 (0, 0)) := by rw [← hwa]; exact heap_alloc_new wr _
            have hsa : wa.heap.size = wr.heap.size + 1 := by rw [← hwa]; simp
            rw [hwa]
            have hx0 : wa.cell? ⟨wr.heap.size, 0, none⟩ = some (.int .i64 o.cls) := by simp [World.cell?, hxa]
            obtain ⟨wb, hwb⟩ : ∃ wb, wa.alloc (.cells #[.int .i64 o.cls] 3) = wb := ⟨_, rfl⟩
            have hbb : Below wr.heap.size wr wb := by rw [← hwb]; exact hba.alloc (by omega) _
            have hxb : wb.heap[wr.heap.size]? = some (.cells #[.int .i64 o.cls, .int .i64 o.fmt, .int .i64 o.hash, .slice FA o.F.length fc] 71 (0, 0)) := by rw [← hwb, Below.heap_alloc _ _ _ (by omega)]; exact hxa
            have hob1 : wb.ownsRow (wr.heap.size + 1) 3 1 (.slice (some ⟨wr.heap.size + 1, 0, none⟩) 1 1) 1 ([o.cls].map (Value.int .i64)) := by
              have := World.ownsRow_lit (e := 3) (base := wr.heap.size + 1) (size := 1) wa #[.int .i64 o.cls] 1 (by omega) (by decide) rfl
              rw [← hwb]
              rw [hsa] at this
              exact this
            have hx1b : (wa.alloc (.cells #[.int .i64 o.cls] 3)).cell? ⟨wr.heap.size, 1, none⟩ = some (.int .i64 o.fmt) := by rw [hwb]; simp [World.cell?, hxb]
            have HWB := Lib.hid hwb
            have HXB := Lib.hid hxb
            have HOB1 := Lib.hid hob1
            have HBB2 := Lib.hid hbb
            have hsb : wb.heap.size = wr.heap.size + 2 := by rw [← hwb]; simp [hsa]
            clear hwa hba hxa hwb hxb hob1 hbb o0 o1 o2 o3
            go_upto_if 83 with fail
            rw [HWB.out]
            clear hx1b hx0
            have hx3 : wb.cell? ⟨wr.heap.size, 3, none⟩ = some (.slice FA o.F.length fc) := by simp [World.cell?, HXB.out]
            go_cut [12] (fun av wy => ∃ wx, wx = wy ∧ Ints wx (wr.heap.size + 1) av (wordsO o) ∧ wx.heap[wr.heap.size]? = some (.cells #[.int .i64 o.cls, .int .i64 o.fmt, .int .i64 o.hash, .slice FA o.F.length fc] 71 (0, 0)) ∧ Below wr.heap.size wr wx)
            case first =>
              by_cases hf0 : o.fmt = 0
              · have z3 : (o.fmt == 0) = true := by simpa using hf0
                have hwo : wordsO o = o.cls :: o.F := by unfold wordsO; rw [if_pos hf0]
                have HWO := Lib.hid hwo
                clear hf0 hwo
                rcases HOBJ.out with ⟨e1, e2⟩ | ⟨g', c', e1, e2⟩
                · have hfs := HFS.out
                  rw [e1] at hfs
                  simp only [Value.slice.injEq] at hfs
                  obtain ⟨hFA, hFl, hFc⟩ := hfs
                  subst hFA hFc
                  rw [← hFl] at hx3 ⊢
                  have HE2 := Lib.hid e2
                  clear e1 e2 hFl
                  go_wp2_with (first | (at_builtin; refine wpList_append_own_none rfl _ _ 23 rfl (wr.heap.size + 1) 3 i0 1 Try.underlying23 hi _ _ _ rfl HOB1.out rfl ?_))
                  go_meet
                  refine ⟨_, rfl, ?_, HXB.out, HBB2.out⟩
                  rw [HWO.out, HE2.out]
                  exact HOB1.out
                · have hfs := HFS.out
                  rw [e1] at hfs
                  simp only [Value.slice.injEq] at hfs
                  obtain ⟨hFA, _, hFc⟩ := hfs
                  subst hFA hFc
                  have hsrc : ∀ (j : Nat) (u : Value), (o.F.map (Value.int .i64))[j]? = some u → wb.cell? ((⟨g', 0, none⟩ : Addr).add j) = some u := fun j u hu => by
                    have h1 := e2 j u hu
                    rw [add_plain] at h1 ⊢
                    exact (HBB2.out.cell (p := ⟨g', 0 + j, none⟩) (cell_lt h1)).trans h1
                  have HSRC := Lib.hid hsrc
                  clear e1 e2 hsrc
                  go_wp2_with (at_builtin; refine wpList_append_own _ rfl _ _ 23 rfl (wr.heap.size + 1) 3 i0 (.int .i64 0) 1 8 Try.underlying23 hi hz0 hz1 hz2 rfl (by decide) _ _ _ rfl HOB1.out ⟨g', 0, none⟩ o.F.length _ (o.F.map (Value.int .i64)) rfl (by simp) HSRC.out (by intro u hu; obtain ⟨y, _, rfl⟩ := List.mem_map.1 hu; rfl) (by unfold maxLen; omega) (by omega) (by omega) ?_; intro v2 w2 hown3 hg2 _)
                  go_meet
                  refine ⟨_, rfl, ?_, ?_, ?_⟩
                  · rw [HWO.out]
                    unfold Ints
                    rw [List.length_cons, Nat.add_comm o.F.length 1]
                    exact hown3
                  · refine (hg2.block _ (by omega) (fun e => ?_)).trans HXB.out
                    have h1 := (HOB1.out.lt _ e.symm).1
                    omega
                  · exact HBB2.out.trans (below_of_append (base := wr.heap.size) (ownsRow_mono HOB1.out (Nat.le_succ _)) hg2 (by omega))
              · have z3 : (o.fmt == 0) = false := by simpa using hf0
                have hwo : wordsO o = [o.cls] := by unfold wordsO; rw [if_neg hf0]
                have HWO := Lib.hid hwo
                clear hf0 hwo
                go_wp2_with fail
                go_meet
                exact ⟨_, rfl, by rw [HWO.out]; exact HOB1.out, HXB.out, HBB2.out⟩
            case' rest =>
              obtain ⟨wx, rfl, hin, hxx, hbx⟩ := hcut
              have HXX := Lib.hid hxx
              have HBX := Lib.hid hbx
              obtain ⟨AA, ac, rfl, hac, han, haa, ham, _⟩ := hin.nums
              have hwl : (wordsO o).length = npO o := by rw [wordsO_at]; simp
              have HWL := Lib.hid hwl
              have hnpb : npO o ≤ 257 := by unfold npO; split <;> omega
              obtain ⟨np, hnp⟩ : ∃ np, npO o = np := ⟨_, rfl⟩
              have HNP := Lib.hid hnp
              rw [hwl, hnp] at hac ⊢
              rw [hnp] at hnpb
              have HAN := Lib.hid han
              have hwx := hbx.size
              clear hin hxx hbx han haa hwl hnp HOB1 HXB hx3 HWB
              go_wp2_with fail
              --<g
              go_loop [13] (fun i => ∃ q : Nat, q ≤ np ∧ i = .int .i64 q ∧ fitQ l o q = true) (fun i => np - (intOf i).toNat)
              case atStart => exact ⟨0, Nat.zero_le _, rfl, rfl⟩
              case round =>
                obtain ⟨q, hq, rfl, hfq⟩ := hrel
                have HFQ := Lib.hid hfq
                clear hfq
                by_cases hlq : q < np
                · have z4 : decide (q < np) = true := decide_eq_true hlq
                  have hql : q < (wordsO o).length := by rw [HWL.out, HNP.out]; exact hlq
                  obtain ⟨gA, offA, rfl, hgA, hcA⟩ := HAN.out q hql
                  obtain ⟨x, hx⟩ : ∃ x, wordO o q = x := ⟨_, rfl⟩
                  have hwx2 : (wordsO o)[q] = x := by simp only [wordsO_at, List.getElem_map, List.getElem_range]; exact hx
                  rw [hwx2] at hcA
                  have HX := Lib.hid hx
                  have g2 : (0 : Int) ≤ (q : Int) := by omega
                  have g3 : (q : Int) < (np : Int) := by omega
                  obtain ⟨zf, hzf⟩ : ∃ zf, findV l x = zf := ⟨_, rfl⟩
                  have HFX : Hid (Calls Try.prog 68 #[.slice A k ca, .int .i64 x] wx fun e w'' => e = .returned (.int .i64 zf) ∧ w'' = wx) := by have := HFL.out wx (HBB.out.trans (HBX.out.mono HBB.out.size)) x; rw [hzf] at this; exact this
                  have hzc : decide (zf < 0) = !l.contains x := by rw [← hzf]; exact findV_neg
                  cases hpx : isPointerV x
                  · have HIP := Lib.hid (show Calls Try.prog 69 #[.int .i64 x] wx fun e w'' => e = .returned (.bool false) ∧ w'' = wx from by have := risPointer_any x wx; rw [hpx] at this; exact this)
                    have HOK : Hid (okW l x = true) := by show _ = _; unfold okW; rw [hpx]; rfl
                    clear hx hwx2 hzf hzc hpx
                    --<h
                    go_wp2_with (go_at_call 69; (with_reducible refine HIP.out.mono ?_); rintro e w8 ⟨rfl, hw8⟩; replace hw8 := hw8.symm; subst hw8)
                    go_round
                    case rel => exact ⟨q + 1, by omega, by go_num, by rw [fitQ_succ, HFQ.out, HX.out, HOK.out]; rfl⟩
                    case measure => simp [intOf]; omega
                    -->h
                  · have HIP := Lib.hid (show Calls Try.prog 69 #[.int .i64 x] wx fun e w'' => e = .returned (.bool true) ∧ w'' = wx from by have := risPointer_any x wx; rw [hpx] at this; exact this)
                    cases hcx : l.contains x
                    · have z5 : decide (zf < 0) = true := by rw [hzc, hcx]; rfl
                      have HOK : Hid (okW l x = false) := by show _ = _; unfold okW; rw [hpx, hcx]; rfl
                      have HV : Hid (keepV m l = (m, [], 1)) := fits_no hkl HY.out (q := q) (by rw [HO.out, HNP.out]; exact hlq) (by rw [HO.out, HX.out]; exact HOK.out)
                      clear hx hwx2 hzf hzc hpx hcx
                      --<i
                      go_wp2_with (first | (go_at_call 69; (with_reducible refine HIP.out.mono ?_); rintro e w8 ⟨rfl, hw8⟩; replace hw8 := hw8.symm; subst hw8) | (go_at_call 68; (with_reducible refine HFX.out.mono ?_); rintro e w8 ⟨rfl, hw8⟩; replace hw8 := hw8.symm; subst hw8))
                      (try rw [Exit.noGoto_ret])
                      go_ret2
                      have hbq := HBB.out.trans (HBX.out.mono HBB.out.size)
                      exact rkeep_no HV.out (H.out.below hbq) (Turns.of_below hbq)
                      -->i
                    · have z5 : decide (zf < 0) = false := by rw [hzc, hcx]; rfl
                      have HOK : Hid (okW l x = true) := by show _ = _; unfold okW; rw [hcx]; simp
                      clear hx hwx2 hzf hzc hpx hcx
                      --<j
                      go_wp2_with (first | (go_at_call 69; (with_reducible refine HIP.out.mono ?_); rintro e w8 ⟨rfl, hw8⟩; replace hw8 := hw8.symm; subst hw8) | (go_at_call 68; (with_reducible refine HFX.out.mono ?_); rintro e w8 ⟨rfl, hw8⟩; replace hw8 := hw8.symm; subst hw8))
                      go_round
                      case rel => exact ⟨q + 1, by omega, by go_num, by rw [fitQ_succ, HFQ.out, HX.out, HOK.out]; rfl⟩
                      case measure => simp [intOf]; omega
                      -->j
                · have hkq : q = np := by omega
                  have z4 : decide (q < np) = false := decide_eq_false hlq
                  clear hlq
                  subst hkq
                  --<k
                  go_upto_region 23 with fail
                  have hnx : wx.heap[W.heap.size]? = some (.cells #[.int .i64 (m.size : Int), .int .i64 (m.made : Int), lvn] 59 (0, 0)) := (HBX.out.block _ hnbl).trans HNB.out
                  have hx0 : wx.cell? ⟨wr.heap.size, 0, none⟩ = some (.int .i64 o.cls) := by simp [World.cell?, HXX.out]
                  have hx1 : wx.cell? ⟨wr.heap.size, 1, none⟩ = some (.int .i64 o.fmt) := by simp [World.cell?, HXX.out]
                  have hx2 : wx.cell? ⟨wr.heap.size, 2, none⟩ = some (.int .i64 o.hash) := by simp [World.cell?, HXX.out]
                  have hx3 : wx.cell? ⟨wr.heap.size, 3, none⟩ = some (.slice FA o.F.length fc) := by simp [World.cell?, HXX.out]
                  obtain ⟨nk, hnk⟩ : ∃ nk, (keptTo m.L l k2).length = nk := ⟨_, rfl⟩
                  have HNK := Lib.hid hnk
                  have hnkb : nk ≤ 131072 := by have := keptTo_len m.L l k2; omega
                  have hol0 : wx.ownsRow (W.heap.size + 1) 71 4 lvn nk (rowsL nk 4 (objF (keptTo m.L l k2) fvn)) := by
                    have := ownsRow_below (ownsRow_rebase HLM.out.own (base' := W.heap.size + 1) (fun b hb => HLB.out b hb)) HBX.out
                    rw [hnk] at this; exact this
                  obtain ⟨LA, lc, hlvn⟩ := own_slice hol0
                  have HLVN := Lib.hid hlvn
                  rw [hlvn] at hol0
                  have hn2 : wx.cell? ⟨W.heap.size, 2, none⟩ = some (.slice LA nk lc) := by rw [← hlvn]; simp [World.cell?, hnx]
                  have hnlx : W.heap.size < wx.heap.size := lt_of_block hnx
                  have hnA : (wx.alloc (.cells #[.int .i64 o.cls, .int .i64 o.fmt, .int .i64 o.hash, .slice FA o.F.length fc] 71)).cell? ⟨W.heap.size, 2, none⟩ = some (.slice LA nk lc) := by rw [World.cell?_alloc_lt _ _ _ hnlx]; exact hn2
                  have hlvb : ∀ b, (Value.slice LA nk lc).ownBlock = some b → W.heap.size < b := fun b hb => HLB.out b (by rw [hlvn]; exact hb)
                  have HLVB := Lib.hid hlvb
                  have HOL0 := Lib.hid hol0
                  have HNX := Lib.hid hnx
                  clear hnk hol0 hlvn hlvb hnx
                  go_region_law (refine step_append_lies _ (by rfl) _ _ _ (by rfl) (W.heap.size + 1) 71 j0 _ 4 48 Try.underlying57 hj hy0 hy1 hy2 rfl (by omega) (.slice LA nk lc) nk (rowsL nk 4 (objF (keptTo m.L l k2) fvn)) (by rfl) ((HOL0.out.alloc _).drew) ⟨wx.heap.size, 0, none⟩ 1 1 [.int .i64 o.cls, .int .i64 o.fmt, .int .i64 o.hash, .slice FA o.F.length fc] (by rfl) (by rfl) (World.news_of_block (cs := #[.int .i64 o.cls, .int .i64 o.fmt, .int .i64 o.hash, .slice FA o.F.length fc]) (t := 71) (fr := (0, 0)) (heap_alloc_new wx _)) (by simp [Value.oneCell']) (by omega) (by unfold maxLen; omega) (by omega) (by simp; omega) (wx.heap.size + 1) (by simp) ?_; intro gg cap w6 hown6 hgrow hat6 hlt6; have hr6 := (hgrow.block W.heap.size (by simp; omega) (fun e => by have := HLVB.out _ e.symm; omega)).trans ((Below.heap_alloc _ _ _ hnlx).trans HNX.out); have hc6 : w6.cell? ⟨W.heap.size, 2, none⟩ = some lvn := by { simp [World.cell?, hr6] }; have hf6 : w6.frozen? ⟨W.heap.size, 2, none⟩ = false := by { simp [World.frozen?, hr6] }; have HR6 := Lib.hid hr6; have HG6 := Lib.hid hgrow; have HO6 := Lib.hid hown6; clear hr6 hgrow hown6 hat6)
                  all_goals
                    go_upto_region 24 with fail
                    obtain ⟨w7, hw7⟩ : ∃ w7, w6.setCell ⟨W.heap.size, 2, none⟩ (.slice (some ⟨gg, 0, none⟩) (nk + 1) cap) = w7 := ⟨_, rfl⟩
                    rw [hw7]
                    have z67 : w7.heap.size = w6.heap.size := by rw [← hw7]; simp
                    have z6 : wx.heap.size < w6.heap.size := Nat.lt_of_lt_of_le (by simp) HG6.out.size
                    have hB67 : Below W.heap.size w6 w7 := by
                      rw [← hw7]
                      refine Below.setCell (Below.refl _ _) ?_ _
                      exact Nat.le_refl _
                    have hBx6 : Below (W.heap.size + 1) wx w6 := (((Below.refl (W.heap.size + 1) wx).alloc (by omega) _).drew).trans (below_of_append ((HOL0.out.alloc _).drew) HG6.out (by simp; omega))
                    have hkx := ownsRow_below HKV.out HBX.out
                    have kvne : ∀ b, kv.ownBlock = some b → (Value.slice LA nk lc).ownBlock ≠ some b := fun b h1 h2 => by
                      obtain ⟨c1, e1⟩ := own_block_of hkx h1
                      obtain ⟨c2, e2⟩ := own_block_of HOL0.out h2
                      rw [e1] at e2; simp at e2
                    have f7 : ∀ b, b < wx.heap.size → b ≠ W.heap.size → (Value.slice LA nk lc).ownBlock ≠ some b → w7.heap[b]? = wx.heap[b]? := fun b hb hn hl => by
                      rw [← hw7, Below.heap_setCell _ _ _ _ hn]; exact (HG6.out.block b (by simp; omega) (fun e => hl e.symm)).trans (Below.heap_alloc _ _ _ hb)
                    have hkl2 : (kptr m.L l k2).length = nk := by rw [kptr_len]; exact HNK.out
                    have hkv7 : w7.ownsRow (W.heap.size + 1) 3 1 kv nk ((kptr m.L l k2).map (Value.int .i64)) := by
                      rw [← hkl2]
                      exact ownsRow_same hkx (by omega) (fun b hb => f7 b (hkx.lt b hb).2 (by have := (hkx.lt b hb).1; omega) (kvne b hb))
                    have hcx := (HBX.out.cell (p := ⟨go_, offo + k2, none⟩) (cell_lt hco)).trans hco
                    have hco7 : w7.cell? ⟨go_, offo + k2, none⟩ = some (.int .i64 po) := by
                      have := f7 go_ (cell_lt hcx) (by omega) (fun e => by have := HLVB.out go_ e; omega)
                      unfold World.cell? at hcx ⊢
                      rw [this]; exact hcx
                    have hbox7 : w7.heap[W.heap.size]? = some (.cells #[.int .i64 (m.size : Int), .int .i64 (m.made : Int), .slice (some ⟨gg, 0, none⟩) (nk + 1) cap] 59 (0, 0)) := by rw [← hw7, heap_setCell_same w6 W.heap.size 2 _ _ _ HR6.out]; rfl
                    have hggb : W.heap.size + 1 ≤ gg ∧ gg < w6.heap.size := HO6.out.lt gg rfl
                    have ho7 : w7.ownsRow (W.heap.size + 1) 71 4 (.slice (some ⟨gg, 0, none⟩) (nk + 1) cap) (nk + 1) (rowsL nk 4 (objF (keptTo m.L l k2) fvn) ++ [.int .i64 o.cls, .int .i64 o.fmt, .int .i64 o.hash, .slice FA o.F.length fc]) := by
                      rw [← hw7]
                      exact ownsRow_setCell_other HO6.out (fun e => by have e' : gg = W.heap.size := Option.some.inj e; omega) _
                    have HKV7 := Lib.hid hkv7
                    have HBOX7 := Lib.hid hbox7
                    have HO7 := Lib.hid ho7
                    have HB67 := Lib.hid hB67
                    have HBX6 := Lib.hid hBx6
                    have HKL2 := Lib.hid hkl2
                    have hnb7 := lt_of_block hbox7
                    have z67' : w6.heap.size ≤ w7.heap.size := by omega
                    clear z67 hw7 hkx kvne f7 hkl2 hkv7 hcx hbox7 ho7 hB67 hBx6 hn2 hnA hx0 hx1 hx2 hx3
                    go_wp2_with (at_builtin; refine wpList_append_own _ rfl _ _ 23 rfl (W.heap.size + 1) 3 i0 (.int .i64 0) 1 8 Try.underlying23 hi hz0 hz1 hz2 rfl (by decide) _ _ _ rfl (HKV7.out.alloc _) ⟨w7.heap.size, 0, none⟩ 1 1 [.int .i64 po] rfl rfl (cells_newN _ _ _ _ (by simp)) (by simp [Value.oneCell']) (by unfold maxLen; omega) (by omega) (by simp only [World.size_alloc]; omega) ?_; intro v2 w9 hown9 hg9 _)
                    go_roundw
                    case rel =>
                      have hB79 : Below (W.heap.size + 1) w7 w9 := ((Below.refl _ _).alloc (by omega) _).trans (below_of_append (HKV7.out.alloc _) hg9 (by simp only [World.size_alloc]; omega))
                      have hx9 : Below W.heap.size wx w9 := ((HBX6.out.mono (Nat.le_succ _)).trans HB67.out).trans (hB79.mono (Nat.le_succ _))
                      have hr9 : Below W.heap.size wr w9 := (HBX.out.mono hws).trans hx9
                      have hW9 : Below W.heap.size W w9 := HBW2.out.trans hr9
                      have hw9 : Below w.heap.size w w9 := HbW.out.trans (hW9.mono hww)
                      have h9 := H.out.below hw9
                      have z79 : w7.heap.size ≤ w9.heap.size := hB79.size
                      have hgne : kv.ownBlock ≠ some gg := fun e => by
                        obtain ⟨c1, e1⟩ := own_block_of HKV7.out e
                        obtain ⟨c2, e2⟩ := own_block_of HO7.out (k := gg) rfl
                        rw [e1] at e2; simp at e2
                      have ho9 : w9.ownsRow (W.heap.size + 1) 71 4 (.slice (some ⟨gg, 0, none⟩) (nk + 1) cap) (nk + 1) (rowsL nk 4 (objF (keptTo m.L l k2) fvn) ++ [.int .i64 o.cls, .int .i64 o.fmt, .int .i64 o.hash, .slice FA o.F.length fc]) := (HO7.out.alloc _).kept hg9 (.inr (fun e => hgne e.symm))
                      have hff9 := h9.fields k2 hkl
                      rw [HO.out, HFK.out] at hff9
                      have hpush := LM.push2 (R' := fun b => R b ∨ since W w9 b) (o := o) (v := fk) HLM.out (by rw [HNK.out, HFS.out]; exact ownsRow_mono ho9 (Nat.zero_le _)) hff9 (fun i hi hn => by
                          obtain ⟨jj, hj1, hj2⟩ := HFJ.out i hi
                          rw [hj2] at hn ⊢
                          rw [← HFK.out]
                          exact H.out.apart jj k2 hj1 hkl hn) (fun i hi b hb => by
                          obtain ⟨jj, hj1, hj2⟩ := HFJ.out i hi
                          rw [hj2] at hb
                          exact hr9.block b (HRLT.out b (H.out.inR.2.2 jj (by omega) b hb))) (fun b hb => by
                          rcases hb with q | q
                          · exact .inl q
                          · exact .inr ⟨q.1, Nat.lt_of_lt_of_le q.2 hr9.size⟩) (fun b hb => by have e' : gg = b := Option.some.inj hb; exact .inr ⟨by omega, by omega⟩) (fun b hb => .inl (H.out.inR.2.2 k2 hkl b (by rw [HFK.out]; exact hb))) (fun b hb => by
                          rcases hb with q | q
                          · exact Nat.lt_of_lt_of_le (HRLT.out b q) hW9.size
                          · exact q.2) hr9.size
                      have e1 : keptTo m.L l (k2 + 1) = keptTo m.L l k2 ++ [o] := by rw [keptTo_succ hkl, HY.out, if_pos rfl, HO.out]
                      have e2 : kptr m.L l (k2 + 1) = kptr m.L l k2 ++ [po] := by rw [kptr_succ, HY.out, if_pos rfl, HPO.out]
                      refine ⟨k2 + 1, v2, by omega, by go_num, rfl, hW9, ⟨.slice (some ⟨gg, 0, none⟩) (nk + 1) cap, _, (hB79.block _ (Nat.lt_succ_self _)).trans HBOX7.out, (by rw [e1]; exact hpush), (fun b hb => by have e' : gg = b := Option.some.inj hb; omega), ?_⟩, ?_, ?_⟩
                      · rw [e1]
                        intro i hi
                        rw [List.length_append] at hi
                        by_cases q : i = (keptTo m.L l k2).length
                        · rw [if_pos q]; exact ⟨k2, by omega, HFK.out.symm⟩
                        · rw [if_neg q]
                          obtain ⟨jj, hj1, hj2⟩ := HFJ.out i (by simp at hi; omega)
                          exact ⟨jj, by omega, hj2⟩
                      · rw [e2, List.length_append, List.map_append, HKL2.out]
                        exact hown9
                      · rw [fitsTo_succ hkl, HY.out, if_pos rfl, HFT.out, HO.out, ← fitQ_end, HNP.out, HFQ.out]; rfl
                    case measure => simp [intOf]; omega
                  -->k
              -->g
            -->f
        · have hkn : k2 = nl := by omega
          have d1 : decide (k2 < nl) = false := decide_eq_false hlt
          clear hlt
          subst hkn
          have hrmn : RM wr (fun b => R b ∨ since W wr b) W.heap.size { m with L := keptTo m.L l k2 } lvn fvn := by
            have := HLM.out.rm (m := { m with L := keptTo m.L l k2 }) rfl (by rw [← HNL.out]; exact keptTo_good H.out.good l) hnb (.inr ⟨Nat.le_refl _, hnbl⟩)
            exact this
          have hobn := robjects_any hrmn
          have HOBN := Lib.hid hobn
          obtain ⟨nk, hnk⟩ : ∃ nk, (keptTo m.L l k2).length = nk := ⟨_, rfl⟩
          have HNK := Lib.hid hnk
          have hnkb : nk ≤ 131072 := by have := keptTo_len m.L l k2; omega
          obtain ⟨KA, kc, rfl, hkc, hkn_, hka, hkm, hko⟩ := (show Ints wr (W.heap.size + 1) kv (kptr m.L l k2) from HKV.out).nums
          have hkl2 : (kptr m.L l k2).length = nk := by rw [kptr_len]; exact hnk
          have HKN := Lib.hid hkn_
          have HKL2 := Lib.hid hkl2
          rw [hkl2] at hkc ⊢
          obtain ⟨LA, lc, hlvn⟩ := own_slice hlm.own
          rw [hnk] at hlvn
          have HLVN := Lib.hid hlvn
          clear hbw hlm hlb hfj hkv hft hRM hobj hlv hbb hrmn hobn hnk hkn_ hka hkl2 hlvn
          --<m
          go_upto_region 26 with (go_at_call 12; (with_reducible refine HOBN.out.mono ?_); rintro e W4 ⟨nv, rfl, hnv, hb4⟩; have HNV := Lib.hid hnv; have HB4 := Lib.hid hb4; clear hnv hb4)
          obtain ⟨NA, nc, rfl, hnc, hnn, hna, hnm, hno⟩ := HNV.out.nums
          have hpk : (ptrs (keptTo m.L l k2)).length = nk := by unfold ptrs; simp; exact HNK.out
          have HPK := Lib.hid hpk
          rw [hpk] at hnc ⊢
          have HNN := Lib.hid hnn
          have HNAB := Lib.hid hna
          have hz4 := HB4.out.size
          clear hpk hnn hna HNV
          obtain ⟨K, hK⟩ : ∃ K, keptTo m.L l k2 = K := ⟨_, rfl⟩
          obtain ⟨KP, hKP⟩ : ∃ KP, kptr m.L l k2 = KP := ⟨_, rfl⟩
          have HK := Lib.hid hK
          have HKP := Lib.hid hKP
          have hnb4 : W4.heap[W.heap.size]? = some (.cells #[.int .i64 (m.size : Int), .int .i64 (m.made : Int), lvn] 59 (0, 0)) := (HB4.out.block _ hnbl).trans HNB.out
          have hlm4 : LM W4 (fun b => R b ∨ since W W4 b) K lvn fvn := by
            rw [← hK]
            refine (HLM.out.same hz4 (fun b hb => HB4.out.block b (HLM.out.lt b hb))).mono (fun b hb => ?_) (fun b hb => ?_)
            · rcases hb with q | q
              · exact .inl q
              · exact .inr ⟨q.1, Nat.lt_of_lt_of_le q.2 hz4⟩
            · rcases hb with q | q
              · exact Nat.lt_of_lt_of_le (HRLT.out b q) (Nat.le_trans hws hz4)
              · exact q.2
          have hKl : K.length = nk := by rw [← hK]; exact HNK.out
          have hKPl : KP.length = nk := by rw [← hKP]; exact HKL2.out
          have hkn4 : Nums W4 KA KP := by rw [← hKP]; exact HKN.out.below HB4.out
          have hnn4 : Nums W4 NA (ptrs K) := by rw [← hK]; exact HNN.out
          have hpl4 : (ptrs K).length = nk := by unfold ptrs; simp [hKl]
          have hlvb : ∀ b, lvn.ownBlock = some b → W.heap.size < b ∧ b < wr.heap.size := fun b hb => ⟨HLB.out b hb, (HLM.out.own.lt b hb).2⟩
          have hkab : ∀ b off, KA = some ⟨b, off, none⟩ → lvn.ownBlock ≠ some b := fun b off e e2 => by
            obtain ⟨c1, e1⟩ := own_block_of HKV.out (k := b) (by rw [hko, e]; rfl)
            obtain ⟨c2, e3⟩ := own_block_of HLM.out.own e2
            rw [e1] at e3; simp at e3
          have hnab : ∀ b off, NA = some ⟨b, off, none⟩ → lvn.ownBlock ≠ some b := fun b off e e2 => by
            have h1 := (HNAB.out b off e).1
            have h2 := (hlvb b e2).2
            omega
          have HNB4 := Lib.hid hnb4
          have HLM4 := Lib.hid hlm4
          have HKL := Lib.hid hKl
          have HKPL := Lib.hid hKPl
          have HKN4 := Lib.hid hkn4
          have HNN4 := Lib.hid hnn4
          have HPL4 := Lib.hid hpl4
          have HLVB := Lib.hid hlvb
          have HKAB := Lib.hid hkab
          have HNAB2 := Lib.hid hnab
          have hKfl : ∀ o, o ∈ K → o.F.length ≤ 256 := fun o ho => by
            rw [← hK] at ho
            obtain ⟨i, hi, _, _, rfl⟩ := keptTo_mem (show k2 ≤ m.L.length by have := HNL.out; omega) ho
            exact H.out.good.len _ (List.getElem_mem hi)
          have HKFL := Lib.hid hKfl
          clear hK hKP hnb4 hlm4 hKl hKPl hkn4 hnn4 hpl4 hlvb hkab hnab hKfl
          go_wp2_with fail
          go_loopw [16] (fun i wr4 => ∃ (j : Nat) (w4 : World), j ≤ nk ∧ i = .int .i64 j ∧ w4 = wr4 ∧ Turns (fun b => lvn.ownBlock = some b) W4 w4 ∧ ∃ fv4, LM w4 (fun b => R b ∨ since W w4 b) ((K.take j).map (turnO (sbV KP (ptrs K))) ++ K.drop j) lvn fv4) (fun i _ => nk - (intOf i).toNat)
          case atStart => exact ⟨0, _, Nat.zero_le _, rfl, rfl, Turns.refl _ _, fvn, by simpa using HLM4.out⟩
          case round =>
            obtain ⟨j, w4, hj4, rfl, rfl, ht4, fv4, hlm4⟩ := hrel
            have HT4 := Lib.hid ht4
            have HLQ := Lib.hid hlm4
            have z44 := ht4.size
            have hnbx := (ht4.block W.heap.size (by omega) (fun e => by have := (HLVB.out _ e).1; omega)).trans HNB4.out
            have HNBX := Lib.hid hnbx
            have hn2 : w4.cell? ⟨W.heap.size, 2, none⟩ = some (.slice LA nk lc) := by rw [← HLVN.out]; simp [World.cell?, hnbx]
            have hplen : ((K.take j).map (turnO (sbV KP (ptrs K))) ++ K.drop j).length = nk := by have := HKL.out; simp; omega
            by_cases hlj : j < nk
            · have z4 : decide (j < nk) = true := decide_eq_true hlj
              have hjp : j < ((K.take j).map (turnO (sbV KP (ptrs K))) ++ K.drop j).length := by rw [hplen]; exact hlj
              have hjK : j < K.length := by rw [HKL.out]; exact hlj
              obtain ⟨g, cg, hlvg, p0, p1, p2, p3⟩ := hlm4.cells hjp
              obtain ⟨FA, fc, hfA, hfN⟩ := hlm4.nums hjp
              obtain ⟨o, ho⟩ : ∃ o, K[j] = o := ⟨_, rfl⟩
              have hoe : ((K.take j).map (turnO (sbV KP (ptrs K))) ++ K.drop j)[j] = o := by
                rw [List.getElem_append_right (by simp only [List.length_map, List.length_take]; omega)]
                simp only [List.length_map, List.length_take, Nat.min_eq_left (Nat.le_of_lt hjK), Nat.sub_self, List.getElem_drop, Nat.add_zero]
                exact ho
              rw [hoe] at p0 p1 p2 hfN hfA
              rw [hfA] at p3
              have hLA : LA = some ⟨g, 0, none⟩ := by have := HLVN.out; rw [hlvg] at this; simp only [Value.slice.injEq] at this; exact this.1.symm
              subst hLA
              have hofl : o.F.length ≤ 256 := by rw [← ho]; exact HKFL.out _ (List.getElem_mem hjK)
              have hT := turned_any (w := w4.drew) (ca := kc) (cb := nc) (fc := fc) (o := o) ((HKN4.out.turns ht4 (fun b off e => HKAB.out b off e)).drewN 1) ((HNN4.out.turns ht4 (fun b off e => HNAB2.out b off e)).drewN 1) (hfN.drewN 1) (by rw [HKPL.out]; omega) (by rw [HKPL.out, HPL4.out]; omega) hofl
              rw [HKPL.out, HPL4.out] at hT
              have HT := Lib.hid hT
              have HO := Lib.hid ho
              have HLVG := Lib.hid hlvg
              have hfr4 : ∀ q, w4.frozen? ⟨g, q, none⟩ = false := fun q => by
                obtain ⟨cur, hh⟩ := own_block_of hlm4.own (k := g) (by rw [hlvg]; rfl)
                simp [World.frozen?, hh]
              have HFR4 := Lib.hid hfr4
              have hg4 := cell_lt p0
              have P0 := Lib.hid p0
              have P1 := Lib.hid p1
              have P2 := Lib.hid p2
              have P3 := Lib.hid p3
              have N2 := Lib.hid hn2
              have g2 : (0 : Int) ≤ (j : Int) := by omega
              have g3 : (j : Int) < (nk : Int) := by omega
              clear ht4 hlm4 hnbx hlvg hfA hfN ho hoe hT hfr4 hplen hjp
              --<n
              go_upto_region 29 with fail
              go_region_with (first | (go_at_call 70; (with_reducible refine HT.out.mono ?_); rintro e w1 ⟨v1, rfl, hv1, hb1⟩; obtain ⟨VA, vc, rfl⟩ := own_slice hv1; have HV1 := Lib.hid hv1; have HB1 := Lib.hid hb1; have u0 := (HB1.out.cell (p := ⟨g, j * 4, none⟩) hg4).trans P0.out; have u1 := (HB1.out.cell (p := ⟨g, j * 4 + 1, none⟩) hg4).trans P1.out; have u2 := (HB1.out.cell (p := ⟨g, j * 4 + 2, none⟩) hg4).trans P2.out; have u3 := (HB1.out.cell (p := ⟨g, j * 4 + 3, none⟩) hg4).trans P3.out; have un := (HB1.out.cell (p := ⟨W.heap.size, 2, none⟩) (cell_lt N2.out)).trans N2.out; have uf := fun q => (HB1.out.frozen (p := ⟨g, q, none⟩) hg4).trans (HFR4.out q); clear hv1 hb1))
              all_goals
                go_wp2_with fail
                go_roundw
                case rel =>
                  have hb14 : Below w4.heap.size w4 w1 := ((Below.refl w4.heap.size w4).drew).trans HB1.out
                  have hz1 := hb14.size
                  have hpl2 : ((K.take j).map (turnO (sbV KP (ptrs K))) ++ K.drop j).length = nk := by have := HKL.out; simp; omega
                  have hlm1 : LM w1 (fun b => R b ∨ since W w1 b) ((K.take j).map (turnO (sbV KP (ptrs K))) ++ K.drop j) lvn fv4 := (HLQ.out.same hz1 (fun b hb => hb14.block b (HLQ.out.lt b hb))).mono (fun b hb => by
                    rcases hb with q | q
                    · exact .inl q
                    · exact .inr ⟨q.1, Nat.lt_of_lt_of_le q.2 hz1⟩) (fun b hb => by
                    rcases hb with q | q
                    · exact Nat.lt_of_lt_of_le (HRLT.out b q) (by omega)
                    · exact q.2)
                  have hvlt : ∀ b, (Value.slice VA (turnO (sbV KP (ptrs K)) o).F.length vc).ownBlock = some b → w4.heap.size ≤ b ∧ b < w1.heap.size := fun b hb => HV1.out.lt b hb
                  have hput := LM.put (R' := fun b => R b ∨ since W w1 b) (o := turnO (sbV KP (ptrs K)) o) (v := .slice VA (turnO (sbV KP (ptrs K)) o).F.length vc) hlm1 (i := j) (by rw [hpl2]; exact hlj) HLVG.out (ownsRow_mono HV1.out (Nat.zero_le _)) (fun e => by have := (hvlt g e).1; omega) (fun i hi hn e => by
                    obtain ⟨b, hb⟩ := Option.ne_none_iff_exists'.1 hn
                    have h1 := HLQ.out.lt b (HLQ.out.inF i hi b hb)
                    rw [hb] at e
                    have h2 := (hvlt b e.symm).1
                    omega) (fun b hb => hb) (fun b hb => .inr ⟨by have := (hvlt b hb).1; omega, (hvlt b hb).2⟩) (fun b hb => by
                    rcases hb with q | q
                    · exact Nat.lt_of_lt_of_le (HRLT.out b q) (by omega)
                    · exact q.2)
                  have hset : ((K.take j).map (turnO (sbV KP (ptrs K))) ++ K.drop j).set j (turnO (sbV KP (ptrs K)) o) = (K.take (j + 1)).map (turnO (sbV KP (ptrs K))) ++ K.drop (j + 1) := by
                    rw [List.set_append_right _ _ (by simp only [List.length_map, List.length_take]; omega), List.length_map, List.length_take, Nat.min_eq_left (Nat.le_of_lt hjK), Nat.sub_self, List.drop_eq_getElem_cons hjK, take_map_succ _ hjK, HO.out]
                    simp
                  rw [hset] at hput
                  have hgl : lvn.ownBlock = some g := by rw [HLVG.out]; rfl
                  refine ⟨j + 1, _, by omega, by go_num, rfl, ((((HT4.out.trans (Turns.of_below hb14)).setCell ⟨g, j * 4, none⟩ _ hgl).setCell ⟨g, j * 4 + 1, none⟩ _ hgl).setCell ⟨g, j * 4 + 2, none⟩ _ hgl).setCell ⟨g, j * 4 + 3, none⟩ _ hgl, _, hput.mono (fun b hb => ?_) (fun b hb => ?_)⟩
                  · rcases hb with q | q
                    · exact .inl q
                    · exact .inr ⟨q.1, by simpa using q.2⟩
                  · rcases hb with q | q
                    · have := Nat.lt_of_lt_of_le (HRLT.out b q) (show W.heap.size ≤ w1.heap.size by omega)
                      simpa using this
                    · exact q.2
                case measure => simp [intOf]; omega
              -->n
            · have hjn : j = nk := by omega
              have z4 : decide (j < nk) = false := decide_eq_false hlj
              clear hlj
              subst hjn
              have hfull : (K.take j).map (turnO (sbV KP (ptrs K))) ++ K.drop j = K.map (turnO (sbV KP (ptrs K))) := by rw [← HKL.out, List.take_length, List.drop_length, List.append_nil]
              rw [hfull] at hlm4
              have HLF := Lib.hid hlm4
              have hbW4 : Below (W.heap.size + 1) W4 w4 := ht4.below (fun b hb => (HLVB.out b hb).1) (by omega)
              have hbw4 : Below w.heap.size w w4 := (HBB.out.trans (HB4.out.mono (Nat.le_trans hww hws))).trans (hbW4.mono (by omega))
              have HBw4 := Lib.hid hbw4
              have hkn5 := HKN4.out.turns ht4 (fun b off e => HKAB.out b off e)
              have hnn5 := HNN4.out.turns ht4 (fun b off e => HNAB2.out b off e)
              have hA5 : Nums w4 A l := HA.out.below hbw4
              have HKN5 := Lib.hid hkn5
              have HNN5 := Lib.hid hnn5
              have HA5 := Lib.hid hA5
              have HFK5 : Hid (∀ w' : World, Below w4.heap.size w4 w' → ∀ x, Calls Try.prog 68 #[.slice KA j kc, .int .i64 x] w' fun e w'' => e = .returned (.int .i64 (findV KP x)) ∧ w'' = w') := fun w' hb x => by have := find_any (c := kc) (HKN5.out.below hb) (by rw [HKPL.out]; omega) x; rw [HKPL.out] at this; exact this
              have HDNE : Hid (k2 = m.L.length) := HNL.out.symm
              have hsbv : ∀ x, x ∈ l → sbV KP (ptrs K) x = toV m.L l x := fun x hx => by
                have := sb_valid (L := m.L) HAL.out hx
                rw [HNL.out, HK.out, HKP.out] at this
                exact this
              have HSB := Lib.hid hsbv
              have hmemK : ∀ x, x ∈ l → x ∈ KP := fun x hx => by
                obtain ⟨i, hi, e⟩ := isV_iff.1 (List.all_eq_true.1 HAL.out x hx)
                have := find_kptr (L := m.L) (l := l) k2 (by rw [HNL.out]; omega) i (by rw [← HNL.out]; exact hi) (by rw [kp, e]; exact List.contains_iff_mem.2 hx)
                rw [HKP.out, e] at this
                obtain ⟨q1, q2, _⟩ := findN_some this
                rw [← q2]; exact List.getElem_mem q1
              have HMK := Lib.hid hmemK
              have HHT4 := Lib.hid ht4
              clear ht4 hlm4 hnbx hplen hfull hbW4 hbw4 hkn5 hnn5 hA5 hsbv hmemK
              --<o
              go_wp2_with fail
              go_loopw [17, 18] (fun ov i wy => ∃ (q : Nat) (vv : Value) (w5 : World), q ≤ k ∧ i = .int .i64 q ∧ vv = ov ∧ w5 = wy ∧ w5.ownsRow w4.heap.size 3 1 vv q (((l.take q).map (toV m.L l)).map (Value.int .i64)) ∧ Below w4.heap.size w4 w5) (fun _ i _ => k - (intOf i).toNat)
              case atStart => exact ⟨0, _, _, Nat.zero_le _, rfl, rfl, rfl, World.ownsRow_nil _ _ _ _, Below.refl _ _⟩
              case round =>
                obtain ⟨q, vv, w5, hq, rfl, rfl, rfl, hown, hb5⟩ := hrel
                have HOWN := Lib.hid hown
                have HB5 := Lib.hid hb5
                have z5 := hb5.size
                clear hown
                by_cases hlq : q < k
                · have y1 : decide (q < k) = true := decide_eq_true hlq
                  have hql : q < l.length := by rw [HN.out]; exact hlq
                  obtain ⟨ga, offa, rfl, hga, hca⟩ := (HA5.out.below hb5) q hql
                  obtain ⟨x, hx⟩ : ∃ x, l[q] = x := ⟨_, rfl⟩
                  have hxl : x ∈ l := by rw [← hx]; exact List.getElem_mem hql
                  rw [hx] at hca
                  have HX := Lib.hid hx
                  obtain ⟨i5, hi5, hf5, hfv5⟩ := findV_some (HMK.out x hxl)
                  have hi5n : i5 < (ptrs K).length := by rw [HPL4.out]; rw [HKPL.out] at hi5; exact hi5
                  obtain ⟨gn, offn, rfl, hgn, hcn⟩ := (HNN5.out.below hb5) i5 hi5n
                  obtain ⟨y, hy⟩ : ∃ y, (ptrs K)[i5] = y := ⟨_, rfl⟩
                  rw [hy] at hcn
                  have HY5 : Hid (toV m.L l x = y) := by show _ = _; rw [← HSB.out x hxl, sbV_some hf5, List.getD_eq_getElem?_getD, List.getElem?_eq_getElem hi5n, hy]; rfl
                  have hfd := HFK5.out w5 hb5 x
                  rw [hfv5] at hfd
                  have HFD5 := Lib.hid hfd
                  have h5nk : i5 < j := by rw [HKPL.out] at hi5; exact hi5
                  have y2 : (0 : Int) ≤ (q : Int) := by omega
                  have y3 : (q : Int) < (k : Int) := by omega
                  have y4 : (0 : Int) ≤ (i5 : Int) := by omega
                  have y5 : (i5 : Int) < (j : Int) := by omega
                  clear hb5 hx hxl hi5 hf5 hfv5 hi5n hy hfd
                  --<p
                  go_wp2_with (first | (go_at_call 68; (with_reducible refine HFD5.out.mono ?_); rintro e w8 ⟨rfl, hw8⟩; replace hw8 := hw8.symm; subst hw8) | (at_builtin; refine wpList_append_own _ rfl _ _ 23 rfl w4.heap.size 3 i0 (.int .i64 0) 1 8 Try.underlying23 hi hz0 hz1 hz2 rfl (by decide) _ _ _ rfl (HOWN.out.alloc _) ⟨w5.heap.size, 0, none⟩ 1 1 [.int .i64 y] rfl rfl (cells_newN _ _ _ _ (by simp)) (by simp [Value.oneCell']) (by unfold maxLen; omega) (by omega) (by simp only [World.size_alloc]; omega) ?_; intro v2 w6 hown3 hg2 _))
                  go_roundw
                  case rel =>
                    have hb2 := below_of_append (HOWN.out.alloc (.cells #[.int .i64 y] 3)) hg2 (by simp only [World.size_alloc]; omega)
                    refine ⟨q + 1, v2, w6, hlq, by go_num, rfl, rfl, ?_, ((HB5.out.alloc z5 _).trans hb2)⟩
                    rw [List.take_succ_eq_append_getElem hql, List.map_append, List.map_append]
                    simp only [List.map_cons, List.map_nil]
                    rw [HX.out, HY5.out]
                    exact hown3
                  case measure => simp [intOf]; omega
                  -->p
                · have hqk : q = k := by omega
                  have y1 : decide (q < k) = false := decide_eq_false hlq
                  clear hlq
                  subst hqk
                  have hbb5 := HBw4.out.trans (hb5.mono HBw4.out.size)
                  have h5 := H.out.below hbb5
                  have H5 := Lib.hid h5
                  have hr2 := h5.c2
                  have hrf : w5.frozen? ⟨r, 2, none⟩ = false := by simp [World.frozen?, h5.box]
                  have hn5 := (hb5.cell (p := ⟨W.heap.size, 2, none⟩) (cell_lt hn2)).trans hn2
                  have HBB5 := Lib.hid hbb5
                  clear hb5 hbb5 h5
                  --<q
                  go_wp2_with fail
                  go_ret2
                  have hfin : keepV m l = ({ m with L := K.map (turnO (sbV KP (ptrs K))) }, l.map (toV m.L l), 0) ∧ Good { m with L := K.map (turnO (sbV KP (ptrs K))) } := by
                    have hft := HFT.out
                    have hk3 := HDNE.out
                    have e1 : K.map (turnO (sbV KP (ptrs K))) = (keptM m l).L := by
                      have := turn_all H.out.good HAL.out (by rw [← hk3]; exact hft)
                      rw [← hk3, HK.out, HKP.out] at this
                      rw [this]
                      unfold keptM
                      rw [← hk3, HK.out]
                    rw [e1]
                    refine ⟨?_, keptM_good H.out.good l⟩
                    unfold keepV keepOk
                    rw [HAL.out, HDI.out, ← hk3, hft]
                    unfold keptM
                    rw [← hk3]; rfl
                  obtain ⟨hkv, hgd⟩ := hfin
                  unfold RKeepPost
                  rw [hkv]
                  have hrW := H.out.lt r H.out.inR.1
                  have hrR : R r := H.out.inR.1
                  have hz45 := HB5.out.size
                  have hzW : w.heap.size ≤ w4.heap.size := HBw4.out.size
                  have hL5 : LM w5 (fun b => R b ∨ since W w5 b) (K.map (turnO (sbV KP (ptrs K)))) lvn fv4 := (HLF.out.same hz45 (fun b hb => HB5.out.block b (HLF.out.lt b hb))).mono (fun b hb => by
                    rcases hb with x | x
                    · exact .inl x
                    · exact .inr ⟨x.1, Nat.lt_of_lt_of_le x.2 hz45⟩) (fun b hb => by
                    rcases hb with x | x
                    · have := HRLT.out b x; omega
                    · exact x.2)
                  have hfr : ∀ i, i < (K.map (turnO (sbV KP (ptrs K)))).length → (fv4 i).ownBlock ≠ some r := fun i hi e => by
                    obtain ⟨c1, e1⟩ := own_block_of (hL5.fields i hi) e
                    rw [H5.out.box] at e1; simp at e1
                  have hlr : lvn.ownBlock ≠ some r := fun e => by have := (HLVB.out r e).1; omega
                  have hL6 : LM (w5.setCell ⟨r, 2, none⟩ lvn) (fun b => R b ∨ since W w5 b) (K.map (turnO (sbV KP (ptrs K)))) lvn fv4 := ⟨ownsRow_setCell_other hL5.own hlr _, fun i hi => ownsRow_setCell_other (hL5.fields i hi) (hfr i hi) _, hL5.apart, hL5.inL, hL5.inF, fun b hb => by have := hL5.lt b hb; simpa using this⟩
                  have hrm := hL6.rm (m := { m with L := K.map (turnO (sbV KP (ptrs K))) }) rfl hgd (r := r) (by rw [heap_setCell_same w5 r 2 _ _ _ H5.out.box]; rfl) (.inl hrR)
                  rw [← HLVN.out]
                  refine ⟨vv, rfl, ?_, _, _, _, hrm, (Turns.of_below HBB5.out).setCell _ _ hrR, fun b hb => ?_⟩
                  · have h1 := HOWN.out
                    rw [show l.take q = l by rw [← HN.out, List.take_length]] at h1
                    unfold Ints
                    rw [List.length_map, HN.out]
                    exact ownsRow_setCell_other (ownsRow_mono h1 hzW) (fun e => by have := (HOWN.out.lt r e).1; omega) _
                  · rcases hb with x | x
                    · exact .inl x
                    · exact .inr (Nat.le_trans hww x.1)
                  -->q
              -->o
          -->m
      -->d
end Go.Proofs.Ythjjanjmiinpbaa

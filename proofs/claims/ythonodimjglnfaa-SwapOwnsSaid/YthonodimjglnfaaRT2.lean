/- Chapter 02: the contract of the reference's Turn. -/
import Derived.Test.YthonodimjglnfaaRT1
import Derived.Test.YthonodimjglnfaaHK4
namespace Go.Proofs.Ythonodimjglnfaa
open Go.ChangeShapes Go.WideShapes Go.ChangeAt Go.RowKit Go.Deep Go.Joins Go.Maps
set_option linter.unusedVariables false
set_option linter.unusedSimpArgs false

theorem slice_pre (A : Option Addr) (n c k : Nat) (hk : k ≤ c) (hA : ∃ b off, A = some ⟨b, off, none⟩) (w : World) : (Instr.slice 28 (.slice A n c) none (some (.int .i64 (k : Int))) none).run Try.prog w = .ok (.slice A k c) w := by
  obtain ⟨b, off, rfl⟩ := hA
  rw [run_slice_h w 28 _ n c Try.underlying28 .i64 _ (by omega) (by omega)]
  have hs : (sizeOf (Try.prog.elem 28)).run Try.prog w = .ok 1 w := by kernel_rfl
  rw [hs]
  simp only [Result.andThen, sliced, Int.toNat_natCast, Nat.sub_zero]
  split
  · rfl
  · simp [Addr.add]
theorem Nums.take {w : World} {A : Option Addr} {l : List Int} (h : Nums w A l) (k : Nat) : Nums w A (l.take k) := fun j hj => by
  obtain ⟨b, off, e, hlt, hc⟩ := h j (by simp at hj; omega)
  exact ⟨b, off, e, hlt, by rw [List.getElem_take]; exact hc⟩
theorem RM.nums {w : World} {R : Nat → Prop} {r : Nat} {m : Hp} {lv : Value} {fv : Nat → Value} (h : RM w R r m lv fv) {i : Nat} (hi : i < m.L.length) : ∃ A c, fv i = .slice A m.L[i].F.length c ∧ Nums w A m.L[i].F := by
  obtain ⟨A, c, e, _, hc⟩ := h.field hi
  refine ⟨A, c, e, fun k hk => ?_⟩
  obtain ⟨g, rfl, hcell, _⟩ := hc k hk
  refine ⟨g, 0, rfl, cell_lt hcell, ?_⟩
  rw [Nat.zero_add, hcell, List.getD_eq_getElem?_getD, List.getElem?_eq_getElem hk]; rfl
theorem ownsRow_rebase {w : World} {base base' n size : Nat} {e : TypeId} {v : Value} {xs : List Value} (h : w.ownsRow base e size v n xs) (hb : ∀ k, v.ownBlock = some k → base' ≤ k) : w.ownsRow base' e size v n xs := by
  refine ⟨h.1, ?_⟩
  rcases h.2 with hn | ⟨g, cap, cur, hv, hg, rest⟩
  · exact .inl hn
  · exact .inr ⟨g, cap, cur, hv, hb g (by rw [hv]; rfl), rest⟩
theorem LM.objs {w : World} {R : Nat → Prop} {L : List Ob} {lv : Value} {fv : Nat → Value} (h : LM w R L lv fv) {B : Nat} (hB : ∀ k, R k → B ≤ k) : w.ownsRow B 46 4 lv L.length (rowsL L.length 4 (objF L fv)) := ownsRow_rebase h.own (fun k hk => hB k (h.inL k hk))
/-- the blocks made since w -/
def since (w wr : World) (b : Nat) : Prop := w.heap.size ≤ b ∧ b < wr.heap.size

set_option maxRecDepth 100000 in
set_option maxHeartbeats 16000000 in
theorem rturn_any {w : World} {R : Nat → Prop} {r : Nat} {m : Hp} {lv : Value} {fv : Nat → Value} (h : RM w R r m lv fv) {A B : Option Addr} {fr tl : List Int} {ca cb : Nat} (hA : Nums w A fr) (hB : Nums w B tl) (hla : fr.length ≤ ca) (hll : fr.length ≤ 1000000000) :
    Calls Try.prog 73 #[.pointer (some ⟨r, 0, none⟩), .slice A fr.length ca, .slice B tl.length cb] w (fun e w' => e = .returned (.int .i64 (turnV m fr tl).2) ∧ RPost R r (turnV m fr tl).1 w w') := by
  obtain ⟨j0, hj, hy0, hy1, hy2⟩ := info_parts infoO
  have H := Lib.hid h
  have HA := Lib.hid hA
  have HB := Lib.hid hB
  obtain ⟨n, hn⟩ : ∃ n, fr.length = n := ⟨_, rfl⟩
  obtain ⟨n2, hn2⟩ : ∃ n2, tl.length = n2 := ⟨_, rfl⟩
  have HN := Lib.hid hn
  have HN2 := Lib.hid hn2
  rw [hn] at hla hll ⊢
  rw [hn2]
  clear h hA hB hn hn2
  by_cases hlen : n = n2
  rotate_left
  · have HV : Hid (turnV m fr tl = (m, 1)) := by show _ = _; unfold turnV turnOk; rw [HN.out, HN2.out, decide_eq_false hlen]; simp
    have e0 : ((n : Int) != (n2 : Int)) = true := by simp; omega
    clear hlen
    go_enter Try.func73, Try.ntmps73
    go_wp2_with fail
    go_ret
    exact ⟨by rw [HV.out]; rfl, by rw [HV.out]; exact ⟨R, lv, fv, H.out, Turns.refl _ _, fun k hk => .inl hk⟩⟩
  subst hlen
  have e0 : ((n : Int) != (n : Int)) = false := by simp
  go_enter Try.func73, Try.ntmps73
  go_wp2_with fail
  go_loopw [7] (fun i wr => ∃ k : Nat, k ≤ n ∧ i = .int .i64 k ∧ distinct (fr.take k) = true ∧ (fr.take k).all (isV m.L) = true ∧ (tl.take k).all (isV m.L) = true ∧ ∃ d, wr = w.drewN d) (fun i _ => n - (intOf i).toNat)
  case atStart => exact ⟨0, Nat.zero_le _, rfl, rfl, rfl, rfl, 0, rfl⟩
  case round =>
    obtain ⟨k, hk, rfl, hdis, hav, hbv, d, hwr⟩ := hrel
    have HWR := Lib.hid hwr
    have HRr : Hid (RM wr R r m lv fv) := by rw [hwr]; exact H.out.drewN d
    have HAr : Hid (Nums wr A fr) := by rw [hwr]; exact HA.out.drewN d
    have HBr : Hid (Nums wr B tl) := by rw [hwr]; exact HB.out.drewN d
    have HTr : Hid (Turns R w wr) := by rw [hwr]; exact (Turns.refl _ _).drewN d
    have HBb : Hid (Below w.heap.size w wr) := by rw [hwr]; exact below_drewN (Below.refl _ _) d
    clear hwr
    have HDIS := Lib.hid hdis
    have HAV := Lib.hid hav
    have HBV := Lib.hid hbv
    clear hdis hav hbv
    by_cases hlt : k < n
    · have d0 : decide (k < n) = true := decide_eq_true hlt
      have hkf : k < fr.length := by rw [HN.out]; exact hlt
      have hkt : k < tl.length := by rw [HN2.out]; exact hlt
      obtain ⟨ga, offa, rfl, hgl, hca⟩ := HAr.out k hkf
      obtain ⟨gb, offb, rfl, hgl2, hcb⟩ := HBr.out k hkt
      obtain ⟨x, hx⟩ : ∃ x, fr[k] = x := ⟨_, rfl⟩
      obtain ⟨y, hy⟩ : ∃ y, tl[k] = y := ⟨_, rfl⟩
      have HX := Lib.hid hx
      have HY := Lib.hid hy
      rw [hx] at hca
      rw [hy] at hcb
      obtain ⟨p1, hp1⟩ : ∃ p, plcV m.L x = p := ⟨_, rfl⟩
      obtain ⟨p2, hp2⟩ : ∃ p, plcV m.L y = p := ⟨_, rfl⟩
      obtain ⟨z, hz⟩ : ∃ z, findV (fr.take k) x = z := ⟨_, rfl⟩
      have HP1 : Hid (∀ e, Calls Try.prog 44 #[.pointer (some ⟨r, 0, none⟩), .int .i64 x] (wr.drewN e) fun e' w' => e' = .returned (.int .i64 p1) ∧ w' = wr.drewN e) := fun e => by have := rplace_any (HRr.out.drewN e) x; rw [hp1] at this; exact this
      have HP2 : Hid (∀ e, Calls Try.prog 44 #[.pointer (some ⟨r, 0, none⟩), .int .i64 y] (wr.drewN e) fun e' w' => e' = .returned (.int .i64 p2) ∧ w' = wr.drewN e) := fun e => by have := rplace_any (HRr.out.drewN e) y; rw [hp2] at this; exact this
      have htk : (fr.take k).length = k := by simp; omega
      have HFD : Hid (∀ e, Calls Try.prog 79 #[.slice (some ⟨ga, offa, none⟩) k ca, .int .i64 x] (wr.drewN e) fun e' w' => e' = .returned (.int .i64 z) ∧ w' = wr.drewN e) := fun e => by
        have := find_any (c := ca) ((HAr.out.drewN e).take k) (by rw [htk]; omega) x
        rw [hz, htk] at this; exact this
      have hsl := fun w' => slice_pre (some ⟨ga, offa, none⟩) n ca k (by omega) ⟨ga, offa, rfl⟩ w'
      have g0 : (0 : Int) ≤ (k : Int) := by omega
      have g1 : (k : Int) < (n : Int) := by omega
      cases hvx : isV m.L x
      · have z1 : decide (p1 < 0) = true := decide_eq_true (by rw [← hp1]; exact plcV_neg.2 hvx)
        have HV : Hid (turnV m fr tl = (m, 1)) := by show _ = _; unfold turnV turnOk; rw [all_take_no hkf (by rw [hx]; exact hvx)]; simp
        clear hx hy hp1 hp2 hz htk hvx
        --<a
        go_wp2_with fail
        go_quiet ((first | (go_at_call_of 44 (Value.int .i64 x); exact Calls.quiet_of_same (HP1.out _)) | (go_at_call_of 44 (Value.int .i64 y); exact Calls.quiet_of_same (HP2.out _)) | (go_at_call 79; exact Calls.quiet_of_same (HFD.out _))))
        go_wp2_with fail
        go_ret
        exact ⟨by rw [HV.out]; rfl, by rw [HV.out]; exact ⟨R, lv, fv, HRr.out.drewN _, HTr.out.drewN _, fun k hk => .inl hk⟩⟩
        -->a
      have q1 : ¬ p1 < 0 := by rw [← hp1]; intro q; rw [plcV_neg.1 q] at hvx; cases hvx
      have z1 : decide (p1 < 0) = false := decide_eq_false q1
      cases hvy : isV m.L y
      · have z2 : decide (p2 < 0) = true := decide_eq_true (by rw [← hp2]; exact plcV_neg.2 hvy)
        have HV : Hid (turnV m fr tl = (m, 1)) := by show _ = _; unfold turnV turnOk; rw [all_take_no hkt (by rw [hy]; exact hvy)]; simp
        clear hx hy hp1 hp2 hz htk hvx hvy
        --<b
        go_wp2_with fail
        go_quiet ((first | (go_at_call_of 44 (Value.int .i64 x); exact Calls.quiet_of_same (HP1.out _)) | (go_at_call_of 44 (Value.int .i64 y); exact Calls.quiet_of_same (HP2.out _)) | (go_at_call 79; exact Calls.quiet_of_same (HFD.out _))))
        go_wp2_with fail
        go_ret
        exact ⟨by rw [HV.out]; rfl, by rw [HV.out]; exact ⟨R, lv, fv, HRr.out.drewN _, HTr.out.drewN _, fun k hk => .inl hk⟩⟩
        -->b
      have q2 : ¬ p2 < 0 := by rw [← hp2]; intro q; rw [plcV_neg.1 q] at hvy; cases hvy
      have z2 : decide (p2 < 0) = false := decide_eq_false q2
      by_cases hin : x ∈ fr.take k
      · obtain ⟨j, _, _, hfv⟩ := findV_some hin
        have z3 : decide (0 ≤ z) = true := decide_eq_true (by rw [← hz, hfv]; omega)
        have HV : Hid (turnV m fr tl = (m, 1)) := by show _ = _; unfold turnV turnOk; rw [distinct_take_no hkf (by rw [hx]; exact hin)]; simp
        clear hx hy hp1 hp2 hz htk hvx hvy hin hfv
        --<c
        go_wp2_with fail
        go_quiet ((first | (go_at_call_of 44 (Value.int .i64 x); exact Calls.quiet_of_same (HP1.out _)) | (go_at_call_of 44 (Value.int .i64 y); exact Calls.quiet_of_same (HP2.out _)) | (go_at_call 79; exact Calls.quiet_of_same (HFD.out _))))
        go_wp2_with fail
        go_ret
        exact ⟨by rw [HV.out]; rfl, by rw [HV.out]; exact ⟨R, lv, fv, HRr.out.drewN _, HTr.out.drewN _, fun k hk => .inl hk⟩⟩
        -->c
      · have z3 : decide (0 ≤ z) = false := decide_eq_false (by rw [← hz, findV_none hin]; omega)
        have hd := distinct_take_succ hkf (by rw [hx]; exact hin) HDIS.out
        have ha := all_take_succ hkf (by rw [hx]; exact hvx) HAV.out
        have hb := all_take_succ hkt (by rw [hy]; exact hvy) HBV.out
        have HD2 := Lib.hid hd
        have HA2 := Lib.hid ha
        have HB2 := Lib.hid hb
        clear hx hy hp1 hp2 hz htk hvx hvy hin hd ha hb
        --<d
        go_wp2_with fail
        go_quiet ((first | (go_at_call_of 44 (Value.int .i64 x); exact Calls.quiet_of_same (HP1.out _)) | (go_at_call_of 44 (Value.int .i64 y); exact Calls.quiet_of_same (HP2.out _)) | (go_at_call 79; exact Calls.quiet_of_same (HFD.out _))))
        go_wp2_with fail
        go_roundw
        case rel => exact ⟨k + 1, by omega, by go_num, HD2.out, HA2.out, HB2.out, _, by rw [HWR.out, World.drewN_drewN]⟩
        case measure => simp [intOf]; omega
        -->d
    · have hkn : k = n := by omega
      have d0 : decide (k < n) = false := decide_eq_false hlt
      clear hlt
      subst hkn
      have hdis : distinct fr = true := by have := HDIS.out; rw [← HN.out, List.take_length] at this; exact this
      have hav : fr.all (isV m.L) = true := by have := HAV.out; rw [← HN.out, List.take_length] at this; exact this
      have hbv : tl.all (isV m.L) = true := by have := HBV.out; rw [← HN2.out, List.take_length] at this; exact this
      have hll2 : fr.length = tl.length := by rw [HN.out, HN2.out]
      have HV : Hid (turnV m fr tl = ({ m with L := m.L.map (turnO (sbV fr tl)) }, 0)) := by
        show _ = _
        unfold turnV turnOk
        rw [hdis, hav, hbv, decide_eq_true hll2]; rfl
      have HGG : Hid (Good { m with L := m.L.map (turnO (sbV fr tl)) }) := H.out.good.turned (fun x hx => sbV_InI H.out.good hll2 hbv hx)
      obtain ⟨nl, hnl⟩ : ∃ nl, m.L.length = nl := ⟨_, rfl⟩
      have HNL := Lib.hid hnl
      have hnlb := len_bd H.out.good
      rw [hnl] at hnlb
      clear hdis hav hbv hll2 hnl
      --<e
      go_wp2_with fail
      go_loopw [8, 9] (fun v i wr => ∃ (j : Nat) (vv : Value), j ≤ nl ∧ i = .int .i64 j ∧ vv = v ∧ (∃ fv2, LM wr (since w wr) ((m.L.take j).map (turnO (sbV fr tl))) vv fv2) ∧ Below w.heap.size w wr) (fun _ i _ => nl - (intOf i).toNat)
      case atStart => exact ⟨0, _, Nat.zero_le _, rfl, rfl, ⟨fun _ => undef, LM.nil _ _ _ (fun k hk => hk.2)⟩, HBb.out⟩
      case round =>
        clear HRr HAr HBr HTr HBb HWR
        obtain ⟨j, vv, hj2, rfl, rfl, ⟨fv2, hlm⟩, hbw⟩ := hrel
        have HLM := Lib.hid hlm
        have HBW := Lib.hid hbw
        have hRM := H.out.below hbw
        have HRM := Lib.hid hRM
        have hws := hbw.size
        obtain ⟨A2, cL, hlv, hcL, hobj⟩ := hRM.list
        rw [HNL.out] at hlv hcL
        have cr := hRM.c2
        rw [hlv] at cr
        have HLV := Lib.hid hlv
        by_cases hlt : j < nl
        · have d1 : decide (j < nl) = true := decide_eq_true hlt
          have hjl : j < m.L.length := by rw [HNL.out]; exact hlt
          obtain ⟨g, rfl, o0, o1, o2, o3⟩ := hobj j hjl
          obtain ⟨FA, fc, hfv, hnums⟩ := hRM.nums hjl
          rw [hfv] at o3
          have hfl := H.out.good.len _ (List.getElem_mem hjl)
          obtain ⟨o, ho⟩ : ∃ o, m.L[j] = o := ⟨_, rfl⟩
          have HO := Lib.hid ho
          rw [ho] at o0 o1 o2 o3 hnums hfl
          have hT := turned_any (w := wr) (ca := ca) (cb := cb) (fc := fc) (o := o) (HA.out.below hbw) (HB.out.below hbw) hnums (by rw [HN.out]; omega) (by rw [HN.out, HN2.out]; omega) hfl
          rw [HN.out, HN2.out] at hT
          have HT := Lib.hid hT
          have hol := hlm.objs (B := w.heap.size) (fun k hk => hk.1)
          have hlq : ((m.L.take j).map (turnO (sbV fr tl))).length = j := by simp; omega
          rw [hlq] at hol
          have HOL := Lib.hid hol
          have HLQ := Lib.hid hlq
          have g0 : (0 : Int) ≤ (j : Int) := by omega
          have g1 : (j : Int) < (nl : Int) := by omega
          clear hlm hbw hRM hobj hfv hnums ho hT hol hlq hlv
          go_wp2_with (first | (go_at_call 80; (with_reducible refine HT.out.mono ?_); rintro e w1 ⟨v1, rfl, hv1, hb1⟩; obtain ⟨VA, vc, rfl⟩ := own_slice hv1; have HV1 := Lib.hid hv1; have HB1 := Lib.hid hb1; have hz1 := hb1.size; clear hv1 hb1) | (at_builtin; refine wpList_append_own _ rfl _ _ 41 rfl w.heap.size 46 j0 _ 4 48 Try.underlying41 hj hy0 hy1 hy2 rfl (by decide) _ _ _ rfl ((ownsRow_below HOL.out HB1.out).alloc _) ⟨w1.heap.size, 0, none⟩ 1 1 [.int .i64 (sbV fr tl o.cls), .int .i64 o.fmt, .int .i64 o.hash, .slice VA (turnO (sbV fr tl) o).F.length vc] rfl rfl (World.news_of_block (cs := #[.int .i64 (sbV fr tl o.cls), .int .i64 o.fmt, .int .i64 o.hash, .slice VA (turnO (sbV fr tl) o).F.length vc]) (t := 46) (fr := (0, 0)) (heap_alloc_new w1 _)) (by simp [Value.oneCell']) (by unfold maxLen; omega) (by omega) (by simp only [World.size_alloc]; omega) ?_; intro v2 w2 hown3 hg2 _))
          go_roundw
          case rel =>
            have hne := HLM.out
            have hz2 : w1.heap.size < w2.heap.size := Nat.lt_of_lt_of_le (by simp) hg2.size
            have hold : ∀ b, b < wr.heap.size → vv.ownBlock ≠ some b → w2.heap[b]? = wr.heap[b]? := fun b hb hn => (hg2.block b (by simp; omega) (fun e => hn e.symm)).trans ((Below.heap_alloc _ _ _ (by omega)).trans (HB1.out.block b hb))
            have hvb : ∀ b, vv.ownBlock = some b → b < wr.heap.size := fun b hb => (hne.own.lt b hb).2
            have hb2 := below_of_append ((ownsRow_below HOL.out HB1.out).alloc (.cells #[.int .i64 (sbV fr tl o.cls), .int .i64 o.fmt, .int .i64 o.hash, .slice VA (turnO (sbV fr tl) o).F.length vc] 46)) hg2 (by simp only [World.size_alloc]; omega)
            have hV2 : w2.ownsRow 0 3 1 (.slice VA (turnO (sbV fr tl) o).F.length vc) (turnO (sbV fr tl) o).F.length ((turnO (sbV fr tl) o).F.map (Value.int .i64)) := by
              have h1 : w1.ownsRow 0 3 1 (.slice VA (turnO (sbV fr tl) o).F.length vc) (turnO (sbV fr tl) o).F.length ((turnO (sbV fr tl) o).F.map (Value.int .i64)) := ownsRow_mono HV1.out (Nat.zero_le _)
              refine ownsRow_same h1 (Nat.le_of_lt hz2) (fun b hb => ?_)
              have hq := HV1.out.lt b hb
              exact (hg2.block b (by simp; omega) (fun e => by have := hvb b e.symm; omega)).trans (Below.heap_alloc _ _ _ hq.2)
            have hpush := LM.push (R' := since w w2) (o := turnO (sbV fr tl) o) (w' := w2) (lv' := v2) (v := .slice VA (turnO (sbV fr tl) o).F.length vc) hne (by rw [HLQ.out]; exact ownsRow_mono hown3 (Nat.zero_le _)) hV2 (fun i hi hn e => by
                obtain ⟨b, hb⟩ := Option.ne_none_iff_exists'.1 hn
                have h1 := (hne.lt b (hne.inF i hi b hb))
                rw [hb] at e
                have h2 := (HV1.out.lt b e.symm).1
                omega) (fun b hb hn => hold b hb.2 hn) (fun b hb => ⟨hb.1, by have := hb.2; omega⟩) (fun b hb => hown3.lt b hb) (fun b hb => ⟨by have := (HV1.out.lt b hb).1; omega, by have := (HV1.out.lt b hb).2; omega⟩) (fun b hb => hb.2) (by omega)
            have hp2 : ∃ fv3, LM w2 (since w w2) ((m.L.take (j + 1)).map (turnO (sbV fr tl))) v2 fv3 := by rw [take_map_succ _ hjl, HO.out]; exact ⟨_, hpush⟩
            exact ⟨j + 1, _, hlt, by go_num, rfl, hp2, ((HBW.out.trans (HB1.out.mono hws)).alloc (Nat.le_trans hws hz1) _).trans hb2⟩
          case measure => simp [intOf]; omega
        · have hkn : j = nl := by omega
          have d1 : decide (j < nl) = false := decide_eq_false hlt
          clear hlt
          subst hkn
          have hfr : wr.frozen? ⟨r, 2, none⟩ = false := by simp [World.frozen?, hRM.box]
          have hqq : ((m.L.take j).map (turnO (sbV fr tl))).length = j := by have := HNL.out; simp; omega
          have hlmo := hlm.own
          rw [hqq] at hlmo
          obtain ⟨VB, vcb, rfl⟩ := own_slice hlmo
          clear hqq hlmo
          clear hlm hbw hRM hobj hlv
          go_wp2_with fail
          go_ret
          refine ⟨by rw [HV.out]; rfl, ?_⟩
          rw [HV.out]
          have hrlt := H.out.lt r H.out.inR.1
          have hlm2 := HLM.out
          rw [show m.L.take j = m.L by rw [← HNL.out, List.take_length]] at hlm2
          have hs2 : ∀ b, since w wr b → (wr.setCell ⟨r, 2, none⟩ (.slice VB j vcb)).heap[b]? = wr.heap[b]? := fun b hb => Below.heap_setCell _ _ _ _ (fun e => by have := hb.1; have : (⟨r, 2, none⟩ : Addr).block = r := rfl; omega)
          refine ⟨fun b => b = r ∨ since w wr b, _, fv2, ((hlm2.same (by simp) hs2).mono (R' := fun b => b = r ∨ since w wr b) (fun b hb => .inr hb) (fun b hb => ?_)).rm rfl HGG.out ?_ (.inl rfl), ?_, ?_⟩
          · rcases hb with rfl | hb
            · simp; omega
            · simpa using hb.2
          · rw [heap_setCell_same wr r 2 _ _ _ HRM.out.box]
            rfl
          · exact (Turns.of_below HBW.out).setCell _ _ H.out.inR.1
          · rintro b (rfl | hb)
            · exact .inl H.out.inR.1
            · exact .inr hb.1
      -->e
end Go.Proofs.Ythonodimjglnfaa

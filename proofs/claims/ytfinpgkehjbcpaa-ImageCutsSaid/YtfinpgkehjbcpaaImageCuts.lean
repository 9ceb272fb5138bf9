/- The law ImageCuts of chapter 05 holds for every input: it returns true, and its arguments stay. No conditions. -/
import Derived.Test.YtfinpgkehjbcpaaRows
import Derived.Test.YtfinpgkehjbcpaaIU
import Derived.Test.YtfinpgkehjbcpaaIRound
import Derived.Deep.RegionHeld3
import Derived.Deep.RegionWith
import Derived.Deep.CutBlock
import Derived.WalkKit
import Derived.ProofKit
import Derived.OpenShut
import Derived.ChangeOld
import Derived.Below
namespace Go.Proofs.Ytfinpgkehjbcpaa.imageCuts
open Go.ChangeShapes Go.WideShapes Go.ChangeAt Go.RowKit Go.Deep Go.Joins Go.Maps
set_option linter.unusedVariables false
set_option linter.unusedSimpArgs false

theorem own : ownKnob Try.prog.godebug = none := by kernel_rfl
theorem laidOut : laidOutB Try.prog = true := by kernel_rfl

set_option maxRecDepth 100000 in
set_option maxHeartbeats 40000000 in
theorem walk (w : World) (A0 : Option Addr) (n0 c0 : Nat) (T0 : Nat → ThT) (R0 : RawT w A0 n0 c0 T0) (A1 : Option Addr) (n1 c1 : Nat) (l1 : List Int) (R1 : RawN w A1 n1 c1 l1) (a2 : Int) (r2_ : InI a2) (A3 : Option Addr) (n3 c3 : Nat) (b3 : List Int) (R3 : RawB w A3 n3 c3 b3) :
    Calls Try.prog 9 #[.slice A0 n0 c0, .slice A1 n1 c1, .int .i64 a2, .slice A3 n3 c3] w fun e w' => e = .returned (.bool true) ∧ Below w.heap.size w w' := by
  have HR0 := Lib.hid R0
  have HR1 := Lib.hid R1
  obtain ⟨m, hmd⟩ : ∃ m, madeV T0 n0 = m := ⟨_, rfl⟩
  have HMD := Lib.hid hmd
  have HS1 : Hid (Snd1 m) := Lib.hid (by rw [← hmd]; exact snd_made _ _)
  have HSN : Hid (Snd m) := Lib.hid HS1.out.1
  have HSI : Hid (m.size = 2000) := Lib.hid (by rw [← hmd]; exact size_made _ _)
  have HL20 : Hid (m.L.length ≤ 20) := Lib.hid (by rw [← hmd]; exact len_made _ _)
  obtain ⟨pn, hpn⟩ : ∃ pn, m.L.length = pn := ⟨_, rfl⟩
  have HPN := Lib.hid hpn
  have HPL : Hid ((ptrs m.L).length = pn) := Lib.hid (by rw [← hpn]; simp [ptrs])
  have hpb : pn ≤ 1000000 := by rw [← hpn]; have := HL20.out; omega
  obtain ⟨x, hx⟩ : ∃ x, allV (ptrs m.L) l1 = x := ⟨_, rfl⟩
  obtain ⟨xn, hxn⟩ : ∃ n, x.length = n := ⟨_, rfl⟩
  have HX := Lib.hid hx
  have HXN := Lib.hid hxn
  have HXL : Hid ((allV (ptrs m.L) l1).length = xn) := Lib.hid (by rw [hx]; exact hxn)
  have hx10 : xn ≤ 10 := by rw [← hxn, ← hx]; exact allV_len _ _
  have HR3 := Lib.hid R3
  clear hmd R0 R1 R3 hpn hx hxn
  go_enter Try.func9, Try.ntmps9
  have hj1 := r2_.1
  have hj2 := r2_.2
  clear r2_
  go_upto_region 4 with (first | (go_at_call 10; (with_reducible refine (madeM HR0.out HMD.out).mono ?_); rintro e w1 ⟨s, bw, bm, r, R, lv, fv, rfl, hmm⟩; have HM := Lib.hid hmm; clear hmm))
  by_cases hcan : (∀ y, y ∈ x → mayV m.L y = true) ∧ (∀ o, o ∈ m.L → oddO o = false)
  · have hwr : Wr m x := ⟨HM.out.p.good, HSN.out, HS1.out.2, by rw [HXN.out]; omega, hcan.1, hcan.2⟩
    have HWR := Lib.hid hwr
    obtain ⟨Lb, hLb⟩ : ∃ Lb, bodyB m x = Lb := ⟨_, rfl⟩
    have hfew := body_few hwr HL20.out (by rw [HXN.out]; exact hx10)
    have hbl7 := body_len m x
    have hbi := body_isB hwr.snd x
    have himg := img_put hwr
    have hmag := body_take m x
    have hrp := read_put hwr 2000
    rw [if_pos ⟨rfl, by have h1 := hwr.good.fits; rw [HSI.out] at h1; omega⟩] at hrp
    have hpp := parse_put hwr
    rw [hLb] at hfew hbl7 hbi himg hmag hrp hpp
    obtain ⟨nb, hnb⟩ : ∃ nb, Lb.length = nb := ⟨_, rfl⟩
    have HLB := Lib.hid hnb
    rw [hnb] at hbl7
    have hnbb : nb ≤ 100000 := by unfold sealV at hfew; rw [List.length_append, hnb] at hfew; omega
    have hse : (sealV Lb).length = nb + 4 := by unfold sealV tailV; rw [List.length_append, hnb]; rfl
    have HSE := Lib.hid hse
    have HBI := Lib.hid hbi
    have HMG := Lib.hid hmag
    have HPP := Lib.hid hpp
    have HRP := Lib.hid hrp
    have HLb := Lib.hid hLb
    have HTK : Hid ((sealV Lb).take nb = Lb) := Lib.hid (by unfold sealV; rw [← hnb]; simp)
    clear hwr hcan hfew hbi himg hmag hrp hpp hnb hse hLb
    go_upto_region 5 with (first | (go_at_call 12; (with_reducible refine (robjL HM.out.q rfl HPN.out).mono ?_); rintro e w2 ⟨A9, c9, rfl, hn, hb⟩; have HN9 := Lib.hid hn; replace HM := Lib.hid (HM.out.below hb); clear hn hb) | (go_at_call 11; (with_reducible refine (rootsN HN9.out HPL.out (HR1.out.nums.below HM.out.b) HR1.out.len HXL.out hpb (Nat.le_trans HR1.out.le HR1.out.cap) HR1.out.int).mono ?_); rw [HX.out]; rintro e w3 ⟨B9, d9, rfl, hn, hb⟩; have HNX := Lib.hid hn; replace HM := Lib.hid (HM.out.below hb); clear hn hb) | (go_at_call 13; (with_reducible refine (write_any HM.out.p HWR.out.snd HNX.out HXN.out (by omega)).mono ?_); intro e w4 hw; obtain ⟨A2, n2, c2, he, hn2, hnc2, hcm2, hby2, hab2, hbi2, hb2⟩ := write_ok HWR.out hw; subst he; rw [HLb.out] at hn2 hby2; rw [HSE.out] at hn2; subst hn2; have HBY2 := Lib.hid hby2; replace HM := Lib.hid (HM.out.below hb2); clear hw hby2 hab2 hbi2 hb2))
    obtain ⟨g2, o2, hA2, hl2, hc2⟩ := HBY2.out 0 (by rw [HSE.out]; omega)
    subst hA2
    clear hl2 hc2
    have HYB : Hid (Bytes w4 (some ⟨g2, o2, none⟩) Lb) := Lib.hid (by have := HBY2.out.take nb; rw [HTK.out] at this; exact this)
    go_upto_if 52 with (fail)
    go_cut [2] (fun v wx => ∃ t : Nat, v = .int .i64 (t : Int) ∧ t ≤ 9223372036854775807 ∧ wx = w4)
    case first =>
      by_cases hneg : a2 < 0
      · have d1 : decide (a2 < 0) = true := decide_eq_true hneg
        go_wp2_with fail
        go_meet
        exact ⟨(-(a2 + 1)).toNat, by congr 1; omega, by omega, rfl⟩
      · have d1 : decide (a2 < 0) = false := decide_eq_false hneg
        go_wp2_with fail
        go_meet
        exact ⟨a2.toNat, by congr 1; omega, by omega, rfl⟩
    case rest =>
      obtain ⟨t, rfl, ht, hwc⟩ := hcut
      replace hwc := hwc.symm
      subst hwc
      obtain ⟨q, hq⟩ : ∃ q, t % nb = q := ⟨_, rfl⟩
      have hqn : q < nb := by rw [← hq]; exact Nat.mod_lt _ (by omega)
      have htm : (t : Int).tmod (nb : Int) = (q : Int) := by rw [Int.tmod_eq_emod_of_nonneg (by omega), ← hq]; simp
      have nz : nb ≠ 0 := by omega
      have nz2 : ¬ ((nb : Int) = 0) := by omega
      have HTQ : Hid ((Lb.take q).length = q) := Lib.hid (by rw [List.length_take, HLB.out]; omega)
      have HYQ : Hid (Bytes w4 (some ⟨g2, o2, none⟩) (Lb.take q)) := Lib.hid (HYB.out.take q)
      have HIQ : Hid (IsB (Lb.take q)) := Lib.hid (fun y hy => HBI.out y (List.mem_of_mem_take hy))
      obtain ⟨L6, hL6⟩ : ∃ L6, sealV (Lb.take q) = L6 := ⟨_, rfl⟩
      have HL6 := Lib.hid hL6
      have HI6 : Hid (IsB L6) := Lib.hid (by rw [← hL6]; exact seal_isB HIQ.out)
      have HV6 : Hid (readV L6 2000 = (none, 7)) := Lib.hid (by
        have hi : imgV L6 = none := by
          rw [← hL6]
          by_cases h4 : q < 4
          · unfold imgV
            rw [if_neg (fun z => by have h1 := z.1; unfold sealV tailV at h1; rw [List.length_append, HTQ.out] at h1; simp at h1; omega)]
          · rw [img_seal (by rw [HTQ.out]; omega) (by rw [List.take_take, Nat.min_eq_left (by omega)]; exact HMG.out)]
            rw [List.drop_take]
            exact parse_less HPP.out (by rw [List.length_drop, HLB.out]; omega)
        unfold readV
        rw [hi])
      clear hq hL6
      obtain ⟨k, hk⟩ : ∃ k, min n3 9 = k := ⟨_, rfl⟩
      have hk9 : k ≤ 9 := by omega
      have HK := Lib.hid hk
      obtain ⟨z, hz⟩ : ∃ z, b3.take k = z := ⟨_, rfl⟩
      have HZL : Hid (z.length = k) := Lib.hid (by rw [← hz, List.length_take, HR3.out.len]; omega)
      have HZB : Hid (Bytes w A3 z) := Lib.hid (by rw [← hz]; exact HR3.out.bytes.take k)
      have HZI : Hid (IsB z) := Lib.hid (by rw [← hz]; exact fun y hy => HR3.out.isB y (List.mem_of_mem_take hy))
      clear hk hz
      go_upto_region 12 with (first | (go_at_call 21; (with_reducible refine (sealedN HYQ.out nocap HIQ.out HTQ.out (by omega)).mono ?_); rintro e wr5 ⟨A6, n6, c6, rfl, hn6, hnc6, hcm6, hby6, hb⟩; rw [HL6.out] at hn6 hby6; have HN6 := Lib.hid hn6.symm; have hn6b : n6 ≤ 200000 := (by rw [hn6, ← HL6.out]; unfold sealV tailV; simp only [List.length_append, List.length_cons, List.length_nil, HTQ.out]; omega); have HY6 := Lib.hid hby6; replace HM := Lib.hid (HM.out.below hb); replace HYB := Lib.hid (HYB.out.below hb); clear hby6 hb hn6) | (go_at_call 17; (with_reducible refine (read_any (n := n6) HY6.out HI6.out HN6.out hnc6 hcm6 (by omega) 2000 (inI_of (by decide) (by decide))).mono ?_); intro e wr6 hr; obtain ⟨he, hb⟩ := read_no hr HV6.out; subst he; replace HM := Lib.hid (HM.out.below hb); replace HYB := Lib.hid (HYB.out.below hb); clear hr hb))
      have HM6 := Lib.hid HM.out
      go_upto_if 78 with (first | (at_builtin; refine wpList_bytes rfl _ _ rfl wr6.heap.size _ [] rfl (BInts.nil wr6 wr6.heap.size) (A := some ⟨g2, o2, none⟩) (m := nb) (c := c2) (ns := Lb) rfl nocap HLB.out HYB.out (by simp; omega) (Nat.le_refl _) ?_; intro v7 wr7 hi7 hg7 ha7; have hb : Below wr6.heap.size wr6 wr7 := below_of_append (BInts.nil wr6 wr6.heap.size) hg7 (Nat.le_refl _); rw [List.nil_append] at hi7; have HI7 := Lib.hid hi7; have HB7 := Lib.hid hb; replace HM := Lib.hid (HM.out.below hb); clear hi7 hg7 ha7 hb))
      go_cut [3] (fun v wx => v = .slice A3 k c3 ∧ wx = wr7)
      case first =>
        have hkk := HK.out
        by_cases h6 : 9 < n3
        · have d1 : decide (9 < n3) = true := decide_eq_true h6
          have d2 : decide ((9 : Int) < (n3 : Int)) = true := decide_eq_true (by omega)
          have hle := HR3.out.le
          have hc6 : 9 ≤ c3 := by omega
          have HK6 : Hid (k = 9) := Lib.hid (by omega)
          clear hkk
          go_wp2_with fail
          go_meet
          exact ⟨by rw [HK6.out], rfl⟩
        · have d1 : decide (9 < n3) = false := decide_eq_false h6
          have d2 : decide ((9 : Int) < (n3 : Int)) = false := decide_eq_false (by omega)
          have HK6 : Hid (k = n3) := Lib.hid (by omega)
          clear hkk
          go_wp2_with fail
          go_meet
          exact ⟨by rw [HK6.out], rfl⟩
      case rest =>
        obtain ⟨rfl, hwc⟩ := hcut
        replace hwc := hwc.symm
        subst hwc
        have HIZ : Hid (IsB (Lb ++ z)) := Lib.hid (HBI.out.app HZI.out)
        obtain ⟨lz, hlz⟩ : ∃ lz, (Lb ++ z).length = lz := ⟨_, rfl⟩
        have HLZ := Lib.hid hlz
        have hlzb : lz ≤ 100009 := by rw [← hlz, List.length_append, HLB.out, HZL.out]; omega
        obtain ⟨L9, hL9⟩ : ∃ L9, sealV (Lb ++ z) = L9 := ⟨_, rfl⟩
        have HL9 := Lib.hid hL9
        have HI9 : Hid (IsB L9) := Lib.hid (by rw [← hL9]; exact seal_isB HIZ.out)
        clear hlz hL9
        by_cases hk0 : 0 < k
        · have e1 : decide (0 < k) = true := decide_eq_true hk0
          have e2 : decide ((0 : Int) < (k : Int)) = true := decide_eq_true (by omega)
          have HV9 : Hid (readV L9 2000 = (none, 7)) := Lib.hid (by
            have hi : imgV L9 = none := by
              rw [← HL9.out, img_seal (by rw [List.length_append, HLB.out]; omega) (by rw [List.take_append_of_le_length (by rw [HLB.out]; omega)]; exact HMG.out), List.drop_append_of_le_length (by rw [HLB.out]; omega)]
              exact parse_more HPP.out (fun e => by have := HZL.out; rw [e] at this; simp at this; omega)
            unfold readV
            rw [hi])
          go_wp2_with (first | (at_builtin; refine wpList_bytes rfl _ _ rfl wr6.heap.size _ Lb rfl HI7.out (A := A3) (m := k) (c := c3) (ns := z) rfl HR3.out.nil HZL.out (HZB.out.below HM.out.b) (by have := HLB.out; omega) HB7.out.size ?_; intro v8 wr8 hi8 hg8 ha8; have hb : Below wr6.heap.size wr6 wr8 := below_grownB HB7.out hg8 (fun q hq => (World.ownsRow.lt HI7.out q hq).1) (Nat.le_refl _); obtain ⟨A8, c8, hv8, hq1, hq2, hq3, hq4⟩ := hi8.bytes; subst hv8; rw [HLZ.out] at hi8 ⊢; clear hq1 hq2; have HC8 := Lib.hid hq3; have HY8 := Lib.hid hq4; have hMb := HM6.out.below hb; replace HM := Lib.hid hMb; clear hi8 hg8 ha8 hb hMb hq3 hq4) | (go_at_call 21; (with_reducible refine (sealedN HY8.out HC8.out HIZ.out HLZ.out (by omega)).mono ?_); rintro e wr9 ⟨A9, n9, c9, rfl, hn9, hnc9, hcm9, hby9, hb⟩; rw [HL9.out] at hn9 hby9; have HN9 := Lib.hid hn9.symm; have hn9b : n9 ≤ 200000 := (by rw [hn9, ← HL9.out]; unfold sealV tailV; simp only [List.length_append, List.length_cons, List.length_nil, HLZ.out]; omega); have HY9 := Lib.hid hby9; replace HM := Lib.hid (HM.out.below hb);  clear hby9 hb hn9) | (go_at_call 17; (with_reducible refine (read_any (n := n9) HY9.out HI9.out HN9.out hnc9 hcm9 (by omega) 2000 (inI_of (by decide) (by decide))).mono ?_); intro e wra hr; obtain ⟨he, hb⟩ := read_no hr HV9.out; subst he; replace HM := Lib.hid (HM.out.below hb);  clear hr hb) | (go_at_call 16; (with_reducible refine (lives_any _).mono ?_); rintro e wl ⟨rfl, hb⟩; replace HM := Lib.hid (HM.out.below hb); clear hb))
          go_ret
          exact ⟨ret_bool (by simp), HM.out.b⟩
        · have e1 : decide (0 < k) = false := decide_eq_false hk0
          have e2 : decide ((0 : Int) < (k : Int)) = false := decide_eq_false (by omega)
          have HV9 : Hid (readV L9 2000 = (some ⟨m.made, tsOf m, wsOf m x⟩, 0)) := Lib.hid (by
            have hz0 : z = [] := List.eq_nil_of_length_eq_zero (by have := HZL.out; omega)
            rw [← HL9.out, hz0, List.append_nil]
            exact HRP.out)
          go_wp2_with (first | (at_builtin; refine wpList_bytes rfl _ _ rfl wr6.heap.size _ Lb rfl HI7.out (A := A3) (m := k) (c := c3) (ns := z) rfl HR3.out.nil HZL.out (HZB.out.below HM.out.b) (by have := HLB.out; omega) HB7.out.size ?_; intro v8 wr8 hi8 hg8 ha8; have hb : Below wr6.heap.size wr6 wr8 := below_grownB HB7.out hg8 (fun q hq => (World.ownsRow.lt HI7.out q hq).1) (Nat.le_refl _); obtain ⟨A8, c8, hv8, hq1, hq2, hq3, hq4⟩ := hi8.bytes; subst hv8; rw [HLZ.out] at hi8 ⊢; clear hq1 hq2; have HC8 := Lib.hid hq3; have HY8 := Lib.hid hq4; have hMb := HM6.out.below hb; replace HM := Lib.hid hMb; clear hi8 hg8 ha8 hb hMb hq3 hq4) | (go_at_call 21; (with_reducible refine (sealedN HY8.out HC8.out HIZ.out HLZ.out (by omega)).mono ?_); rintro e wr9 ⟨A9, n9, c9, rfl, hn9, hnc9, hcm9, hby9, hb⟩; rw [HL9.out] at hn9 hby9; have HN9 := Lib.hid hn9.symm; have hn9b : n9 ≤ 200000 := (by rw [hn9, ← HL9.out]; unfold sealV tailV; simp only [List.length_append, List.length_cons, List.length_nil, HLZ.out]; omega); have HY9 := Lib.hid hby9; replace HM := Lib.hid (HM.out.below hb);  clear hby9 hb hn9) | (go_at_call 17; (with_reducible refine (read_any (n := n9) HY9.out HI9.out HN9.out hnc9 hcm9 (by omega) 2000 (inI_of (by decide) (by decide))).mono ?_); intro e wra hr; obtain ⟨sx, bwx, bmx, Ax, nx, cx, he, _, _, _, _, hb⟩ := read_yes hr HV9.out; subst he; replace HM := Lib.hid (HM.out.below hb); clear hr hb) | (go_at_call 16; (with_reducible refine (lives_any _).mono ?_); rintro e wl ⟨rfl, hb⟩; replace HM := Lib.hid (HM.out.below hb); clear hb))
          go_ret
          exact ⟨ret_bool (by simp), HM.out.b⟩
  · skip
    have HWB : Hid (writeV m x = ([], 1)) := Lib.hid (by unfold writeV; rw [if_neg (fun q => hcan q.2)])
    clear hcan
    go_wp2_with (first | (go_at_call 12; (with_reducible refine (robjL HM.out.q rfl HPN.out).mono ?_); rintro e w2 ⟨A9, c9, rfl, hn, hb⟩; have HN9 := Lib.hid hn; replace HM := Lib.hid (HM.out.below hb); clear hn hb) | (go_at_call 11; (with_reducible refine (rootsN HN9.out HPL.out (HR1.out.nums.below HM.out.b) HR1.out.len HXL.out hpb (Nat.le_trans HR1.out.le HR1.out.cap) HR1.out.int).mono ?_); rw [HX.out]; rintro e w3 ⟨B9, d9, rfl, hn, hb⟩; have HNX := Lib.hid hn; replace HM := Lib.hid (HM.out.below hb); clear hn hb) | (go_at_call 13; (with_reducible refine (write_any HM.out.p HSN.out HNX.out HXN.out (by omega)).mono ?_); intro e w4 hw; obtain ⟨A2, c2, he, hb2⟩ := write_bad HWB.out hw; subst he; replace HM := Lib.hid (HM.out.below hb2); clear hw hb2) | (go_at_call 16; (with_reducible refine (lives_any _).mono ?_); rintro e w9 ⟨rfl, hb⟩; replace HM := Lib.hid (HM.out.below hb); clear hb))
    go_ret
    exact ⟨ret_bool (by simp), HM.out.b⟩


/-! ### the row's step -/
set_option maxRecDepth 100000 in
theorem lifted (os : Os) (started : os.Started) (H : Type) (enc : TypeId × Value → H) :
    ReturnsInHanded {} Try.checked os 9 .any (Rows.imageCutsSpec.pre6 enc Try.prog Try.f9 Rows.imageCutsRow.domain false) (Rows.imageCutsSpec.post enc Try.prog Try.f9 false true false false) := by
  refine returnsInHanded_of_change (C := Try.checked) own started (by kernel_rfl) Try.func9
    (ChangeSpec.witness6 (enc := enc) (C := Try.checked) false ⟨#[], #[.slice none 0 0, .slice none 0 0, .int .i64 0, .slice none 0 0], []⟩ 8 (by kernel_rfl) (by kernel_rfl) (by kernel_rfl) (by kernel_rfl)) ?_
  intro W base args ds gs before hval0 hW hcnd _
  have hval : ∀ (j : Nat) t v, Try.f9.params[j]? = some t → args[j]? = some v → Value.okWide Try.prog W .any base t v := hval0
  have hW' := hW
  obtain ⟨p, q, hA0, hV, rfl, hfz, hnd⟩ := hW
  have hA : DataW.TrodAll enc Try.prog W 0 (fun _ => true) true Try.f9.params.toList args.toList ds p := hA0
  rw [Try.params9] at hA hval
  obtain ⟨v0, vs0, d0, ds0, p0, q0, hargs, rfl, rfl, h0, r0⟩ := trodAll_cons hA
  obtain ⟨v1, vs1, d1, ds1, p1, q1, rfl, rfl, rfl, h1, r1⟩ := trodAll_cons r0
  obtain ⟨v2, vs2, d2, ds2, p2, q2, rfl, rfl, rfl, h2, r2⟩ := trodAll_cons r1
  obtain ⟨v3, vs3, d3, ds3, p3, q3, rfl, rfl, rfl, h3, r3⟩ := trodAll_cons r2
  obtain ⟨rfl, rfl, rfl⟩ := trodAll_nil r3
  obtain rfl : args = #[v0, v1, v2, v3] := by cases args; simp_all
  obtain ⟨rfl, rfl⟩ := trodVars_none hV
  have k0 := h0
  have lt0 : ∀ x ∈ p0, x.block < W.heap.size := by obtain ⟨m, hm⟩ := k0; exact DataW.trod_lt m _ _ _ hm
  obtain ⟨A0, n0, c0, C0, rfl, R0⟩ := open_things (hval 0 22 v0 rfl rfl) h0
  have k1 := h1
  have lt1 : ∀ x ∈ p1, x.block < W.heap.size := by obtain ⟨m, hm⟩ := k1; exact DataW.trod_lt m _ _ _ hm
  obtain ⟨A1, n1, c1, C1, rfl, R1⟩ := open_nlist (hval 1 23 v1 rfl rfl) h1
  obtain ⟨a2, rfl, rfl, rfl, w2⟩ := open_int Try.underlying3 (hval 2 3 v2 rfl rfl) h2
  have k3 := h3
  have lt3 : ∀ x ∈ p3, x.block < W.heap.size := by obtain ⟨m, hm⟩ := k3; exact DataW.trod_lt m _ _ _ hm
  obtain ⟨A3, n3, c3, C3, rfl, R3⟩ := open_bytes (hval 3 30 v3 rfl rfl) h3
  clear hA0 hval0
  refine (walk W _ _ _ _ R0 _ _ _ _ R1 _ (bounds_i64 w2) _ _ _ _ R3).mono fun e W' ⟨he, bel⟩ => ?_
  subst he
  exact ⟨_, rfl, _, _, _, [], _, [], hW', trodAll_mk1 (shut_bool Try.underlying4 _), (trodAll_cons_mk (Below.trod laidOut (by kernel_rfl) (of_decide_eq_true (by kernel_rfl)) k0 bel lt0) (trodAll_cons_mk (Below.trod laidOut (by kernel_rfl) (of_decide_eq_true (by kernel_rfl)) k1 bel lt1) (trodAll_cons_mk (shut_int Try.underlying3 w2) (trodAll_cons_mk (Below.trod laidOut (by kernel_rfl) (of_decide_eq_true (by kernel_rfl)) k3 bel lt3) trodAll_mk0)))), rfl, bel.frame _, fun h => by cases h⟩

theorem over : Rows.imageCutsRow.holds Try.pinned (OpenSpec.ofChange Rows.imageCutsSpec) :=
  OpenClaim.holds_of_wide 9 Try.f9 rfl rfl rfl rfl rfl rfl rfl ⟨rfl, rfl, rfl, rfl, rfl⟩ rfl rfl rfl rfl rfl (by kernel_rfl) Try.func9 (by kernel_rfl)
    (of_decide_eq_true (by kernel_rfl)) (by unfold Func.isWrapper; first | (rw [if_pos (by decide +kernel)]; kernel_rfl) | (rw [if_neg (by decide +kernel)]; exact ⟨rfl, rfl⟩))
    (fun os started H enc _ => lifted os started H enc)

theorem proved : Rows.ImageCutsSaid := over
end Go.Proofs.Ytfinpgkehjbcpaa.imageCuts

/- The law ImageOwns of chapter 05 holds for every input: it returns true, and its arguments stay. No conditions. -/
import Derived.Test.YtfinpgkehjbcpaaRows
import Derived.Test.YtfinpgkehjbcpaaIU
import Derived.Deep.RegionHeld3
import Derived.Deep.RegionWith
import Derived.Deep.CutBlock
import Derived.WalkKit
import Derived.ProofKit
import Derived.OpenShut
import Derived.ChangeOld
import Derived.Below
namespace Go.Proofs.Ytfinpgkehjbcpaa.imageOwns
open Go.ChangeShapes Go.WideShapes Go.ChangeAt Go.RowKit Go.Deep Go.Joins Go.Maps
set_option linter.unusedVariables false
set_option linter.unusedSimpArgs false

theorem own : ownKnob Try.prog.godebug = none := by kernel_rfl
theorem laidOut : laidOutB Try.prog = true := by kernel_rfl

set_option maxRecDepth 100000 in
set_option maxHeartbeats 40000000 in
theorem walk (w : World) (A0 : Option Addr) (n0 c0 : Nat) (T0 : Nat → ThT) (R0 : RawT w A0 n0 c0 T0) (A1 : Option Addr) (n1 c1 : Nat) (l1 : List Int) (R1 : RawN w A1 n1 c1 l1) :
    Calls Try.prog 8 #[.slice A0 n0 c0, .slice A1 n1 c1] w fun e w' => e = .returned (.bool true) ∧ Below w.heap.size w w' := by
  have HR0 := Lib.hid R0
  have HR1 := Lib.hid R1
  obtain ⟨m, hmd⟩ : ∃ m, madeV T0 n0 = m := ⟨_, rfl⟩
  have HMD := Lib.hid hmd
  have HS1 : Hid (Snd1 m) := Lib.hid (by rw [← hmd]; exact snd_made _ _)
  have HSN : Hid (Snd m) := Lib.hid HS1.out.1
  have HSI : Hid (m.size = 2000) := Lib.hid (by rw [← hmd]; exact size_made _ _)
  have HL20 : Hid (m.L.length ≤ 20) := Lib.hid (by rw [← hmd]; exact len_made _ _)
  obtain ⟨pn, hpn⟩ : ∃ pn, m.L.length = pn := ⟨_, rfl⟩
  have HPN := Lib.hid hpn
  have HPL : Hid ((ptrs m.L).length = pn) := Lib.hid (by rw [← hpn]; simp [ptrs])
  have hpb : pn ≤ 1000000 := by rw [← hpn]; have := HL20.out; omega
  obtain ⟨x, hx⟩ : ∃ x, allV (ptrs m.L) l1 = x := ⟨_, rfl⟩
  obtain ⟨xn, hxn⟩ : ∃ n, x.length = n := ⟨_, rfl⟩
  have HX := Lib.hid hx
  have HXN := Lib.hid hxn
  have HXL : Hid ((allV (ptrs m.L) l1).length = xn) := Lib.hid (by rw [hx]; exact hxn)
  have hx10 : xn ≤ 10 := by rw [← hxn, ← hx]; exact allV_len _ _
  clear hmd R0 R1 hpn hx hxn
  go_enter Try.func8, Try.ntmps8
  go_upto_region 5 with (first | (go_at_call 10; (with_reducible refine (madeM HR0.out HMD.out).mono ?_); rintro e w1 ⟨s, bw, bm, r, R, lv, fv, rfl, hmm⟩; have HM := Lib.hid hmm; clear hmm) | (go_at_call 12; (with_reducible refine (robjL HM.out.q rfl HPN.out).mono ?_); rintro e w2 ⟨A9, c9, rfl, hn, hb⟩; have HN9 := Lib.hid hn; replace HM := Lib.hid (HM.out.below hb); clear hn hb) | (go_at_call 11; (with_reducible refine (rootsN HN9.out HPL.out (HR1.out.nums.below HM.out.b) HR1.out.len HXL.out hpb (Nat.le_trans HR1.out.le HR1.out.cap) HR1.out.int).mono ?_); rw [HX.out]; rintro e w3 ⟨B9, d9, rfl, hn, hb⟩; have HNX := Lib.hid hn; replace HM := Lib.hid (HM.out.below hb); clear hn hb))
  by_cases hcan : (∀ y, y ∈ x → mayV m.L y = true) ∧ (∀ o, o ∈ m.L → oddO o = false)
  · have hwr : Wr m x := ⟨HM.out.p.good, HSN.out, HS1.out.2, by rw [HXN.out]; omega, hcan.1, hcan.2⟩
    have HWR := Lib.hid hwr
    obtain ⟨L2, hL2⟩ : ∃ L2, sealV (bodyB m x) = L2 := ⟨_, rfl⟩
    have HI2 : Hid (IsB L2) := Lib.hid (by rw [← hL2]; exact seal_isB (body_isB hwr.snd x))
    have hlen2 : L2.length ≤ 100000 := by rw [← hL2]; exact body_few hwr HL20.out (by rw [HXN.out]; exact hx10)
    have HL2 := Lib.hid hL2
    have HWB : Hid ((wsOf m x).map (realI (tsOf m)) = x) := Lib.hid (ws_back hwr)
    have HBB : Hid (bldL (tsOf m) = m.L) := Lib.hid (bld_back hwr.good hwr.snd)
    have hrp := read_put hwr 2000
    rw [if_pos ⟨rfl, by have h1 := hwr.good.fits; rw [HSI.out] at h1; omega⟩, hL2] at hrp
    have HRL := Lib.hid hrp
    have HSI2 : Hid ((2000 : Int) = ((m.size : Nat) : Int)) := Lib.hid (by rw [HSI.out]; rfl)
    have hpos2 : 0 < L2.length := by rw [← hL2]; unfold sealV; rw [List.length_append]; have := body_len m x; omega
    have HPO := Lib.hid hpos2
    have HPLT : Hid ((∀ k, pset s bw bm k → k < w3.heap.size) ∧ (∀ k, R k → k < w3.heap.size)) := Lib.hid ⟨HM.out.p.lt, HM.out.q.lt⟩
    have HXB : Hid (∀ b off, B9 = some ⟨b, off, none⟩ → 0 < x.length → b < w3.heap.size) := Lib.hid (fun b off e z => by
      obtain ⟨b', o', e', hl, _⟩ := HNX.out 0 z
      rw [e] at e'; cases e'; exact hl)
    have hWS : w.heap.size ≤ w3.heap.size := HM.out.b.size
    clear hrp hwr hL2 hcan
    go_upto_region 6 with (first | (go_at_call 13; (with_reducible refine (write_any HM.out.p HWR.out.snd HNX.out HXN.out (by omega)).mono ?_); intro e w4 hw; obtain ⟨A2, n2, c2, he, hn2, hnc2, hcm2, hby2, hab2, hbi2, hb2⟩ := write_ok HWR.out hw; subst he; rw [HL2.out] at hn2 hby2 hbi2; have hn2b : n2 ≤ 100000 := (by rw [hn2]; exact hlen2); have HN2 := Lib.hid hn2.symm; have HBY2 := Lib.hid hby2; have HAB2 := Lib.hid hab2; have HS4 : Hid (w3.heap.size ≤ w4.heap.size) := Lib.hid hb2.size; have HBI2 := Lib.hid hbi2; replace HNX := Lib.hid (HNX.out.below hb2); replace HM := Lib.hid (HM.out.below hb2); clear hw hby2 hab2 hbi2 hb2 hn2))
    obtain ⟨g2, o2, hA2, _, _⟩ := HBY2.out 0 HPO.out
    subst hA2
    obtain ⟨ho2, hrow⟩ := HBI2.out.rowB HN2.out.symm
    subst ho2
    have HRO := Lib.hid hrow
    have hg2 : w3.heap.size ≤ g2 := HAB2.out g2 0 rfl
    have hg24 : g2 < w4.heap.size := by obtain ⟨C, h1, _⟩ := hrow; exact lt_of_block h1
    clear hrow
    go_upto_region 10 with (first | (at_builtin; refine wpList_bytes rfl _ _ rfl w4.heap.size _ [] rfl (BInts.nil w4 w4.heap.size) (A := some ⟨g2, 0, none⟩) (m := n2) (c := c2) (ns := L2) rfl nocap HN2.out HBY2.out (by simp; omega) (Nat.le_refl _) ?_; intro v5 w5 hi5 hg5 ha5; have hb5 : Below w4.heap.size w4 w5 := below_of_append (BInts.nil w4 w4.heap.size) hg5 (Nat.le_refl _); rw [List.nil_append] at hi5; obtain ⟨A5, c5, hv5, hq1, hq2, hq3, hq4⟩ := hi5.bytes; subst hv5; rw [HN2.out] at hi5 ⊢; clear hq1 hq2 hq3 hq4; have HOW := Lib.hid hi5; have HB5 := Lib.hid hb5; clear hi5 hg5 ha5))
    replace HBY2 := Lib.hid (HBY2.out.below HB5.out)
    replace HRO := Lib.hid (HRO.out.turns (Turns.of_below (S := fun _ => False) HB5.out) (fun z => z))
    replace HM := Lib.hid (HM.out.below HB5.out)
    replace HNX := Lib.hid (HNX.out.below HB5.out)
    have hg25 : g2 < w5.heap.size := Nat.lt_of_lt_of_le hg24 HB5.out.size
    go_wp2_with (first | (go_at_call 17; (with_reducible refine (read_any (n := n2) HBY2.out HI2.out HN2.out hnc2 hcm2 (by omega) 2000 (inI_of (by decide) (by decide))).mono ?_); intro e w6 hr; obtain ⟨s7, bw7, bm7, A7, n7, c7, he, hn7, hnm7, hp7, hj7, hb7⟩ := read_yes hr HRL.out; subst he; rw [HWB.out] at hn7 hnm7; rw [HBB.out] at hp7; rw [HXN.out] at hn7; subst hn7; have HN7 := Lib.hid hnm7; have HP7 := Lib.hid hp7; have HJ7 := Lib.hid hj7; replace HOW := Lib.hid (HOW.out.below hb7); have HSZ6 : Hid (w5.heap.size ≤ w6.heap.size) := Lib.hid hb7.size; replace HRO := Lib.hid (HRO.out.turns (Turns.of_below (S := fun _ => False) hb7) (fun z => z)); replace HNX := Lib.hid (HNX.out.below hb7); replace HM := Lib.hid (HM.out.below hb7); clear hr hnm7 hp7 hj7 hb7))
    go_loopw [15] (fun i wr => ∃ k : Nat, k ≤ n2 ∧ i = .int .i64 k ∧ RowB wr g2 n2 ∧ Turns (fun b => b = g2) w6 wr) (fun i _ => n2 - (intOf i).toNat)
    case atStart => exact ⟨0, Nat.zero_le _, rfl, HRO.out, Turns.refl _ _⟩
    case round =>
      obtain ⟨k, hk, rfl, hrb, ht⟩ := hrel
      by_cases hlt : k < n2
      · have d1 : decide (k < n2) = true := decide_eq_true hlt
        have d2 : decide ((k : Int) < (n2 : Int)) = true := decide_eq_true (by omega)
        have g0 : (0 : Int) ≤ (k : Int) := by omega
        have g1 : (k : Int) < (n2 : Int) := by omega
        obtain ⟨⟨v0, hc0⟩, hf0⟩ := hrb.cell hlt
        have HR1_ := Lib.hid (hrb.set (k := k) (.int .u8 9))
        have HT1_ := Lib.hid (ht.setCell ⟨g2, k, none⟩ (.int .u8 9) rfl)
        clear hrb ht
        go_wp2_with fail
        go_roundw
        case rel => exact ⟨k + 1, by omega, by go_num, HR1_.out, HT1_.out⟩
        case measure => simp [intOf]; omega
      · have d1 : decide (k < n2) = false := decide_eq_false hlt
        have d2 : decide ((k : Int) < (n2 : Int)) = false := decide_eq_false (by omega)
        have HM2 : Hid (MM w wr s bw bm r R m lv fv) := Lib.hid ⟨HM.out.p.turns ht (fun z hz q => by have := HPLT.out.1 z hz; omega), HM.out.q.same ht.size (fun z hz => ht.block z (HM.out.q.lt z hz) (fun q => by have := HPLT.out.2 z hz; omega)), HM.out.b.trans (ht.below (fun z q => by omega) HM.out.b.size)⟩
        replace HP7 := Lib.hid (HP7.out.turns ht (fun z hz q => by have := HJ7.out z hz; omega))
        replace HNX := Lib.hid (nums_turns0 HNX.out ht (fun b off e z q => by have := HXB.out b off e z; omega))
        replace HOW := Lib.hid (HOW.out.turns ht (fun z hz q => by have := (World.ownsRow.lt HOW.out z hz).1; omega))
        clear HM
        have HM := Lib.hid HM2.out
        clear HM2 hrb ht
        go_upto_region 20 with (first | (go_at_call_of 20 (Value.pointer (some ⟨s, 0, none⟩)); (with_reducible refine (like_any HM.out.p HM.out.q rfl rfl 2000 HSI2.out).mono ?_); rintro e w9 ⟨rfl, hb⟩; replace HM := Lib.hid (HM.out.below hb); replace HNX := Lib.hid (HNX.out.below hb); replace HOW := Lib.hid (HOW.out.below hb); clear hb) | (go_at_call 20; (with_reducible refine (like_any HP7.out HM.out.q rfl rfl 2000 rfl).mono ?_); rintro e w8 ⟨rfl, hb⟩; replace HM := Lib.hid (HM.out.below hb); replace HNX := Lib.hid (HNX.out.below hb); replace HOW := Lib.hid (HOW.out.below hb); clear hb) | (go_at_call 13; (with_reducible refine (write_any HM.out.p HWR.out.snd HNX.out HXN.out (by omega)).mono ?_); intro e wa hw; obtain ⟨A8, n8, c8, he, hn8, hnc8, hcm2, hby2, hab2, hbi2, hb2⟩ := write_ok HWR.out hw; subst he; rw [HL2.out] at hn8 hby2 hbi2; have hn8b : n8 ≤ 100000 := (by rw [hn8]; exact hlen2); have HN8_ := Lib.hid hn8.symm; have HBY8 := Lib.hid hby2; have HAB8 := Lib.hid hab2; have HBI8 := Lib.hid hbi2; replace HNX := Lib.hid (HNX.out.below hb2); replace HM := Lib.hid (HM.out.below hb2); replace HOW := Lib.hid (HOW.out.below hb2); clear hw hby2 hab2 hbi2 hb2 hn8))
        have HLN : Hid (L2.length = n2) := Lib.hid HN2.out
        have hpos : 0 < n2 := by have := HPO.out; have := HN2.out; omega
        have HOWB := Lib.hid HOW.out.bytesAt
        have hn82 : n8 = n2 := HN8_.out.symm.trans HLN.out
        subst hn82
        go_wp2_with (first | (go_at_call 15; (with_reducible refine (bytes_any HOWB.out HBY8.out HLN.out hpos).mono ?_); rintro e w9 ⟨rfl, hw9⟩; replace hw9 := hw9.symm; subst hw9) | (go_at_call 16; (with_reducible refine (lives_any _).mono ?_); rintro e w9 ⟨rfl, hb⟩; replace HM := Lib.hid (HM.out.below hb); clear hb))
        go_ret
        exact ⟨ret_bool (by simp), HM.out.b⟩
  · skip
    have HWB : Hid (writeV m x = ([], 1)) := Lib.hid (by unfold writeV; rw [if_neg (fun q => hcan q.2)])
    clear hcan
    go_wp2_with (first | (go_at_call 13; (with_reducible refine (write_any HM.out.p HSN.out HNX.out HXN.out (by omega)).mono ?_); intro e w4 hw; obtain ⟨A2, c2, he, hb2⟩ := write_bad HWB.out hw; subst he; replace HM := Lib.hid (HM.out.below hb2); clear hw hb2) | (go_at_call 16; (with_reducible refine (lives_any _).mono ?_); rintro e w9 ⟨rfl, hb⟩; replace HM := Lib.hid (HM.out.below hb); clear hb))
    go_ret
    exact ⟨ret_bool (by simp), HM.out.b⟩


/-! ### the row's step -/
set_option maxRecDepth 100000 in
theorem lifted (os : Os) (started : os.Started) (H : Type) (enc : TypeId × Value → H) :
    ReturnsInHanded {} Try.checked os 8 .any (Rows.imageOwnsSpec.pre6 enc Try.prog Try.f8 Rows.imageOwnsRow.domain false) (Rows.imageOwnsSpec.post enc Try.prog Try.f8 false true false false) := by
  refine returnsInHanded_of_change (C := Try.checked) own started (by kernel_rfl) Try.func8
    (ChangeSpec.witness6 (enc := enc) (C := Try.checked) false ⟨#[], #[.slice none 0 0, .slice none 0 0], []⟩ 8 (by kernel_rfl) (by kernel_rfl) (by kernel_rfl) (by kernel_rfl)) ?_
  intro W base args ds gs before hval0 hW hcnd _
  have hval : ∀ (j : Nat) t v, Try.f8.params[j]? = some t → args[j]? = some v → Value.okWide Try.prog W .any base t v := hval0
  have hW' := hW
  obtain ⟨p, q, hA0, hV, rfl, hfz, hnd⟩ := hW
  have hA : DataW.TrodAll enc Try.prog W 0 (fun _ => true) true Try.f8.params.toList args.toList ds p := hA0
  rw [Try.params8] at hA hval
  obtain ⟨v0, vs0, d0, ds0, p0, q0, hargs, rfl, rfl, h0, r0⟩ := trodAll_cons hA
  obtain ⟨v1, vs1, d1, ds1, p1, q1, rfl, rfl, rfl, h1, r1⟩ := trodAll_cons r0
  obtain ⟨rfl, rfl, rfl⟩ := trodAll_nil r1
  obtain rfl : args = #[v0, v1] := by cases args; simp_all
  obtain ⟨rfl, rfl⟩ := trodVars_none hV
  have k0 := h0
  have lt0 : ∀ x ∈ p0, x.block < W.heap.size := by obtain ⟨m, hm⟩ := k0; exact DataW.trod_lt m _ _ _ hm
  obtain ⟨A0, n0, c0, C0, rfl, R0⟩ := open_things (hval 0 22 v0 rfl rfl) h0
  have k1 := h1
  have lt1 : ∀ x ∈ p1, x.block < W.heap.size := by obtain ⟨m, hm⟩ := k1; exact DataW.trod_lt m _ _ _ hm
  obtain ⟨A1, n1, c1, C1, rfl, R1⟩ := open_nlist (hval 1 23 v1 rfl rfl) h1
  clear hA0 hval0
  refine (walk W _ _ _ _ R0 _ _ _ _ R1).mono fun e W' ⟨he, bel⟩ => ?_
  subst he
  exact ⟨_, rfl, _, _, _, [], _, [], hW', trodAll_mk1 (shut_bool Try.underlying4 _), (trodAll_cons_mk (Below.trod laidOut (by kernel_rfl) (of_decide_eq_true (by kernel_rfl)) k0 bel lt0) (trodAll_cons_mk (Below.trod laidOut (by kernel_rfl) (of_decide_eq_true (by kernel_rfl)) k1 bel lt1) trodAll_mk0)), rfl, bel.frame _, fun h => by cases h⟩

theorem over : Rows.imageOwnsRow.holds Try.pinned (OpenSpec.ofChange Rows.imageOwnsSpec) :=
  OpenClaim.holds_of_wide 8 Try.f8 rfl rfl rfl rfl rfl rfl rfl ⟨rfl, rfl, rfl, rfl, rfl⟩ rfl rfl rfl rfl rfl (by kernel_rfl) Try.func8 (by kernel_rfl)
    (of_decide_eq_true (by kernel_rfl)) (by unfold Func.isWrapper; first | (rw [if_pos (by decide +kernel)]; kernel_rfl) | (rw [if_neg (by decide +kernel)]; exact ⟨rfl, rfl⟩))
    (fun os started H enc _ => lifted os started H enc)

theorem proved : Rows.ImageOwnsSaid := over
end Go.Proofs.Ytfinpgkehjbcpaa.imageOwns

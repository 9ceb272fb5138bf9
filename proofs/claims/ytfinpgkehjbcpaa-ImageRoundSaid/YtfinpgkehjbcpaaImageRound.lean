/- The law ImageRound of chapter 05 holds for every input: it returns true, and its arguments stay. No conditions. -/
import Derived.Test.YtfinpgkehjbcpaaRows
import Derived.Test.YtfinpgkehjbcpaaIU
import Derived.Deep.RegionHeld3
import Derived.Deep.RegionWith
import Derived.Deep.CutBlock
import Derived.WalkKit
import Derived.ProofKit
import Derived.OpenShut
import Derived.ChangeOld
import Derived.Below
namespace Go.Proofs.Ytfinpgkehjbcpaa.imageRound
open Go.ChangeShapes Go.WideShapes Go.ChangeAt Go.RowKit Go.Deep Go.Joins Go.Maps
set_option linter.unusedVariables false
set_option linter.unusedSimpArgs false

theorem own : ownKnob Try.prog.godebug = none := by kernel_rfl
theorem laidOut : laidOutB Try.prog = true := by kernel_rfl

set_option maxRecDepth 100000 in
set_option maxHeartbeats 40000000 in
theorem walk (w : World) (A0 : Option Addr) (n0 c0 : Nat) (T0 : Nat → ThT) (R0 : RawT w A0 n0 c0 T0) (A1 : Option Addr) (n1 c1 : Nat) (l1 : List Int) (R1 : RawN w A1 n1 c1 l1) (a2 : Int) (r2_ : InI a2) :
    Calls Try.prog 6 #[.slice A0 n0 c0, .slice A1 n1 c1, .int .i64 a2] w fun e w' => e = .returned (.bool true) ∧ Below w.heap.size w w' := by
  have HR0 := Lib.hid R0
  have HR1 := Lib.hid R1
  obtain ⟨m, hmd⟩ : ∃ m, madeV T0 n0 = m := ⟨_, rfl⟩
  have HMD := Lib.hid hmd
  have HS1 : Hid (Snd1 m) := Lib.hid (by rw [← hmd]; exact snd_made _ _)
  have HSN : Hid (Snd m) := Lib.hid HS1.out.1
  have HSI : Hid (m.size = 2000) := Lib.hid (by rw [← hmd]; exact size_made _ _)
  have HL20 : Hid (m.L.length ≤ 20) := Lib.hid (by rw [← hmd]; exact len_made _ _)
  obtain ⟨pn, hpn⟩ : ∃ pn, m.L.length = pn := ⟨_, rfl⟩
  have HPN := Lib.hid hpn
  have HPL : Hid ((ptrs m.L).length = pn) := Lib.hid (by rw [← hpn]; simp [ptrs])
  have hpb : pn ≤ 1000000 := by rw [← hpn]; have := HL20.out; omega
  obtain ⟨x, hx⟩ : ∃ x, allV (ptrs m.L) l1 = x := ⟨_, rfl⟩
  obtain ⟨xn, hxn⟩ : ∃ n, x.length = n := ⟨_, rfl⟩
  have HX := Lib.hid hx
  have HXN := Lib.hid hxn
  have HXL : Hid ((allV (ptrs m.L) l1).length = xn) := Lib.hid (by rw [hx]; exact hxn)
  have hx10 : xn ≤ 10 := by rw [← hxn, ← hx]; exact allV_len _ _
  clear hmd R0 R1 hpn hx hxn
  go_enter Try.func6, Try.ntmps6
  have HI2_ := Lib.hid r2_
  clear r2_
  go_upto_region 5 with (first | (go_at_call 10; (with_reducible refine (madeM HR0.out HMD.out).mono ?_); rintro e w1 ⟨s, bw, bm, r, R, lv, fv, rfl, hmm⟩; have HM := Lib.hid hmm; clear hmm) | (go_at_call 12; (with_reducible refine (robjL HM.out.q rfl HPN.out).mono ?_); rintro e w2 ⟨A9, c9, rfl, hn, hb⟩; have HN9 := Lib.hid hn; replace HM := Lib.hid (HM.out.below hb); clear hn hb) | (go_at_call 11; (with_reducible refine (rootsN HN9.out HPL.out (HR1.out.nums.below HM.out.b) HR1.out.len HXL.out hpb (Nat.le_trans HR1.out.le HR1.out.cap) HR1.out.int).mono ?_); rw [HX.out]; rintro e w3 ⟨B9, d9, rfl, hn, hb⟩; have HNX := Lib.hid hn; replace HM := Lib.hid (HM.out.below hb); clear hn hb))
  by_cases hcan : (∀ y, y ∈ x → mayV m.L y = true) ∧ (∀ o, o ∈ m.L → oddO o = false)
  · have hwr : Wr m x := ⟨HM.out.p.good, HSN.out, HS1.out.2, by rw [HXN.out]; omega, hcan.1, hcan.2⟩
    have HWR := Lib.hid hwr
    obtain ⟨L2, hL2⟩ : ∃ L2, sealV (bodyB m x) = L2 := ⟨_, rfl⟩
    have HI2 : Hid (IsB L2) := Lib.hid (by rw [← hL2]; exact seal_isB (body_isB hwr.snd x))
    have hlen2 : L2.length ≤ 100000 := by rw [← hL2]; exact body_few hwr HL20.out (by rw [HXN.out]; exact hx10)
    have HL2 := Lib.hid hL2
    have HWB : Hid ((wsOf m x).map (realI (tsOf m)) = x) := Lib.hid (ws_back hwr)
    have HBB : Hid (bldL (tsOf m) = m.L) := Lib.hid (bld_back hwr.good hwr.snd)
    have hrp := read_put hwr a2
    rw [hL2] at hrp
    obtain ⟨nd, hnd⟩ : ∃ nd : Nat, 3 + szs m.L = nd := ⟨_, rfl⟩
    rw [hnd] at hrp
    have HND := Lib.hid hnd
    have hndb : nd ≤ 2000 := by rw [← hnd, ← HSI.out]; exact hwr.good.fits
    have HRO : Hid ((m.size : Int) - (adr m.L m.L.length : Int) = 2000 - (nd : Int)) := Lib.hid (by rw [HSI.out, adr_end, hnd]; rfl)
    clear hwr hL2 hcan hnd
    by_cases hok : okN a2 = true ∧ (nd : Int) ≤ a2
    · rw [if_pos hok] at hrp
      have HRL := Lib.hid hrp
      have h1 := (okN_iff.1 hok.1).1
      have h2 := (okN_iff.1 hok.1).2
      have h3 := hok.2
      have e1 : decide (16 ≤ a2) = true := decide_eq_true h1
      have e2 : decide (a2 ≤ 131072) = true := decide_eq_true h2
      have e3 : decide ((nd : Int) ≤ a2) = true := decide_eq_true h3
      have HSZ7 : Hid (a2 = ((a2.toNat : Nat) : Int)) := Lib.hid (by omega)
      clear hrp hok
      go_wp2_with (first | (go_at_call 13; (with_reducible refine (write_any HM.out.p HWR.out.snd HNX.out HXN.out (by omega)).mono ?_); intro e w4 hw; obtain ⟨A2, n2, c2, he, hn2, hnc2, hcm2, hby2, hab2, hbi2, hb2⟩ := write_ok HWR.out hw; subst he; rw [HL2.out] at hn2 hby2 hbi2; have hn2b : n2 ≤ 100000 := (by rw [hn2]; exact hlen2); have HN2 := Lib.hid hn2.symm; have HBY2 := Lib.hid hby2; have HAB2 := Lib.hid hab2; have HBI2 := Lib.hid hbi2; replace HNX := Lib.hid (HNX.out.below hb2); replace HM := Lib.hid (HM.out.below hb2); clear hw hby2 hab2 hbi2 hb2 hn2) | (go_at_call 17; (with_reducible refine (read_any (n := n2) HBY2.out HI2.out HN2.out hnc2 hcm2 (by omega) a2 HI2_.out).mono ?_); intro e w5 hr; obtain ⟨s7, bw7, bm7, A7, n7, c7, he, hn7, hnm7, hp7, hj7, hb7⟩ := read_yes hr HRL.out; subst he; rw [HWB.out] at hn7 hnm7; rw [HBB.out] at hp7; rw [HXN.out] at hn7; subst hn7; have HN7 := Lib.hid hnm7; have HP7 := Lib.hid hp7; replace HNX := Lib.hid (HNX.out.below hb7); replace HM := Lib.hid (HM.out.below hb7); clear hr hnm7 hp7 hj7 hb7) | (go_at_call 22; (with_reducible refine (rroom_any HM.out.q).mono ?_); rw [HRO.out]; rintro e w6 ⟨rfl, n6, rfl⟩; have hdr := below_drewN (Below.refl w5.heap.size w5) n6; replace HM := Lib.hid (HM.out.below hdr); replace HN7 := Lib.hid (HN7.out.below hdr); replace HNX := Lib.hid (HNX.out.below hdr); replace HP7 := Lib.hid (HP7.out.below hdr); clear hdr) | (go_at_call 19; (with_reducible refine (sameN' HNX.out HN7.out HXN.out (by omega)).mono ?_); rintro e w7 ⟨rfl, hb⟩; replace HM := Lib.hid (HM.out.below hb); replace HP7 := Lib.hid (HP7.out.below hb); clear hb) | (go_at_call 20; (with_reducible refine (like_any HP7.out HM.out.q rfl rfl a2 HSZ7.out).mono ?_); rintro e w8 ⟨rfl, hb⟩; replace HM := Lib.hid (HM.out.below hb); clear hb) | (go_at_call 16; (with_reducible refine (lives_any _).mono ?_); rintro e w9 ⟨rfl, hb⟩; replace HM := Lib.hid (HM.out.below hb); clear hb))

      go_ret
      exact ⟨ret_bool (by simp), HM.out.b⟩
    · rw [if_neg hok] at hrp
      have HRL := Lib.hid hrp
      clear hrp
      by_cases h1 : 16 ≤ a2
      · have e1 : decide (16 ≤ a2) = true := decide_eq_true h1
        by_cases h2 : a2 ≤ 131072
        · have e2 : decide (a2 ≤ 131072) = true := decide_eq_true h2
          have h3 : ¬ (nd : Int) ≤ a2 := fun q => hok ⟨okN_iff.2 ⟨h1, h2⟩, q⟩
          have e3 : decide ((nd : Int) ≤ a2) = false := decide_eq_false h3
          clear hok
          go_wp2_with (first | (go_at_call 13; (with_reducible refine (write_any HM.out.p HWR.out.snd HNX.out HXN.out (by omega)).mono ?_); intro e w4 hw; obtain ⟨A2, n2, c2, he, hn2, hnc2, hcm2, hby2, hab2, hbi2, hb2⟩ := write_ok HWR.out hw; subst he; rw [HL2.out] at hn2 hby2 hbi2; have hn2b : n2 ≤ 100000 := (by rw [hn2]; exact hlen2); have HN2 := Lib.hid hn2.symm; have HBY2 := Lib.hid hby2; have HAB2 := Lib.hid hab2; have HBI2 := Lib.hid hbi2; replace HNX := Lib.hid (HNX.out.below hb2); replace HM := Lib.hid (HM.out.below hb2); clear hw hby2 hab2 hbi2 hb2 hn2) | (go_at_call 17; (with_reducible refine (read_any (n := n2) HBY2.out HI2.out HN2.out hnc2 hcm2 (by omega) a2 HI2_.out).mono ?_); intro e w5 hr; obtain ⟨he, hb⟩ := read_no hr HRL.out; subst he; replace HM := Lib.hid (HM.out.below hb); clear hr hb) | (go_at_call 22; (with_reducible refine (rroom_any HM.out.q).mono ?_); rw [HRO.out]; rintro e w6 ⟨rfl, n6, rfl⟩; have hdr := below_drewN (Below.refl w5.heap.size w5) n6; replace HM := Lib.hid (HM.out.below hdr); clear hdr) | (go_at_call 16; (with_reducible refine (lives_any _).mono ?_); rintro e w9 ⟨rfl, hb⟩; replace HM := Lib.hid (HM.out.below hb); clear hb))
          go_ret
          exact ⟨ret_bool (by simp), HM.out.b⟩
        · have e2 : decide (a2 ≤ 131072) = false := decide_eq_false h2
          clear hok
          go_wp2_with (first | (go_at_call 13; (with_reducible refine (write_any HM.out.p HWR.out.snd HNX.out HXN.out (by omega)).mono ?_); intro e w4 hw; obtain ⟨A2, n2, c2, he, hn2, hnc2, hcm2, hby2, hab2, hbi2, hb2⟩ := write_ok HWR.out hw; subst he; rw [HL2.out] at hn2 hby2 hbi2; have hn2b : n2 ≤ 100000 := (by rw [hn2]; exact hlen2); have HN2 := Lib.hid hn2.symm; have HBY2 := Lib.hid hby2; have HAB2 := Lib.hid hab2; have HBI2 := Lib.hid hbi2; replace HNX := Lib.hid (HNX.out.below hb2); replace HM := Lib.hid (HM.out.below hb2); clear hw hby2 hab2 hbi2 hb2 hn2) | (go_at_call 17; (with_reducible refine (read_any (n := n2) HBY2.out HI2.out HN2.out hnc2 hcm2 (by omega) a2 HI2_.out).mono ?_); intro e w5 hr; obtain ⟨he, hb⟩ := read_no hr HRL.out; subst he; replace HM := Lib.hid (HM.out.below hb); clear hr hb) | (go_at_call 16; (with_reducible refine (lives_any _).mono ?_); rintro e w9 ⟨rfl, hb⟩; replace HM := Lib.hid (HM.out.below hb); clear hb))
          go_ret
          exact ⟨ret_bool (by simp), HM.out.b⟩
      · have e1 : decide (16 ≤ a2) = false := decide_eq_false h1
        clear hok
        go_wp2_with (first | (go_at_call 13; (with_reducible refine (write_any HM.out.p HWR.out.snd HNX.out HXN.out (by omega)).mono ?_); intro e w4 hw; obtain ⟨A2, n2, c2, he, hn2, hnc2, hcm2, hby2, hab2, hbi2, hb2⟩ := write_ok HWR.out hw; subst he; rw [HL2.out] at hn2 hby2 hbi2; have hn2b : n2 ≤ 100000 := (by rw [hn2]; exact hlen2); have HN2 := Lib.hid hn2.symm; have HBY2 := Lib.hid hby2; have HAB2 := Lib.hid hab2; have HBI2 := Lib.hid hbi2; replace HNX := Lib.hid (HNX.out.below hb2); replace HM := Lib.hid (HM.out.below hb2); clear hw hby2 hab2 hbi2 hb2 hn2) | (go_at_call 17; (with_reducible refine (read_any (n := n2) HBY2.out HI2.out HN2.out hnc2 hcm2 (by omega) a2 HI2_.out).mono ?_); intro e w5 hr; obtain ⟨he, hb⟩ := read_no hr HRL.out; subst he; replace HM := Lib.hid (HM.out.below hb); clear hr hb) | (go_at_call 16; (with_reducible refine (lives_any _).mono ?_); rintro e w9 ⟨rfl, hb⟩; replace HM := Lib.hid (HM.out.below hb); clear hb))
        go_ret
        exact ⟨ret_bool (by simp), HM.out.b⟩
  · skip
    have HWB : Hid (writeV m x = ([], 1)) := Lib.hid (by unfold writeV; rw [if_neg (fun q => hcan q.2)])
    clear hcan
    go_wp2_with (first | (go_at_call 13; (with_reducible refine (write_any HM.out.p HSN.out HNX.out HXN.out (by omega)).mono ?_); intro e w4 hw; obtain ⟨A2, c2, he, hb2⟩ := write_bad HWB.out hw; subst he; replace HM := Lib.hid (HM.out.below hb2); clear hw hb2) | (go_at_call 16; (with_reducible refine (lives_any _).mono ?_); rintro e w9 ⟨rfl, hb⟩; replace HM := Lib.hid (HM.out.below hb); clear hb))
    go_ret
    exact ⟨ret_bool (by simp), HM.out.b⟩


/-! ### the row's step -/
set_option maxRecDepth 100000 in
theorem lifted (os : Os) (started : os.Started) (H : Type) (enc : TypeId × Value → H) :
    ReturnsInHanded {} Try.checked os 6 .any (Rows.imageRoundSpec.pre6 enc Try.prog Try.f6 Rows.imageRoundRow.domain false) (Rows.imageRoundSpec.post enc Try.prog Try.f6 false true false false) := by
  refine returnsInHanded_of_change (C := Try.checked) own started (by kernel_rfl) Try.func6
    (ChangeSpec.witness6 (enc := enc) (C := Try.checked) false ⟨#[], #[.slice none 0 0, .slice none 0 0, .int .i64 0], []⟩ 8 (by kernel_rfl) (by kernel_rfl) (by kernel_rfl) (by kernel_rfl)) ?_
  intro W base args ds gs before hval0 hW hcnd _
  have hval : ∀ (j : Nat) t v, Try.f6.params[j]? = some t → args[j]? = some v → Value.okWide Try.prog W .any base t v := hval0
  have hW' := hW
  obtain ⟨p, q, hA0, hV, rfl, hfz, hnd⟩ := hW
  have hA : DataW.TrodAll enc Try.prog W 0 (fun _ => true) true Try.f6.params.toList args.toList ds p := hA0
  rw [Try.params6] at hA hval
  obtain ⟨v0, vs0, d0, ds0, p0, q0, hargs, rfl, rfl, h0, r0⟩ := trodAll_cons hA
  obtain ⟨v1, vs1, d1, ds1, p1, q1, rfl, rfl, rfl, h1, r1⟩ := trodAll_cons r0
  obtain ⟨v2, vs2, d2, ds2, p2, q2, rfl, rfl, rfl, h2, r2⟩ := trodAll_cons r1
  obtain ⟨rfl, rfl, rfl⟩ := trodAll_nil r2
  obtain rfl : args = #[v0, v1, v2] := by cases args; simp_all
  obtain ⟨rfl, rfl⟩ := trodVars_none hV
  have k0 := h0
  have lt0 : ∀ x ∈ p0, x.block < W.heap.size := by obtain ⟨m, hm⟩ := k0; exact DataW.trod_lt m _ _ _ hm
  obtain ⟨A0, n0, c0, C0, rfl, R0⟩ := open_things (hval 0 22 v0 rfl rfl) h0
  have k1 := h1
  have lt1 : ∀ x ∈ p1, x.block < W.heap.size := by obtain ⟨m, hm⟩ := k1; exact DataW.trod_lt m _ _ _ hm
  obtain ⟨A1, n1, c1, C1, rfl, R1⟩ := open_nlist (hval 1 23 v1 rfl rfl) h1
  obtain ⟨a2, rfl, rfl, rfl, w2⟩ := open_int Try.underlying3 (hval 2 3 v2 rfl rfl) h2
  clear hA0 hval0
  refine (walk W _ _ _ _ R0 _ _ _ _ R1 _ (bounds_i64 w2)).mono fun e W' ⟨he, bel⟩ => ?_
  subst he
  exact ⟨_, rfl, _, _, _, [], _, [], hW', trodAll_mk1 (shut_bool Try.underlying4 _), (trodAll_cons_mk (Below.trod laidOut (by kernel_rfl) (of_decide_eq_true (by kernel_rfl)) k0 bel lt0) (trodAll_cons_mk (Below.trod laidOut (by kernel_rfl) (of_decide_eq_true (by kernel_rfl)) k1 bel lt1) (trodAll_cons_mk (shut_int Try.underlying3 w2) trodAll_mk0))), rfl, bel.frame _, fun h => by cases h⟩

theorem over : Rows.imageRoundRow.holds Try.pinned (OpenSpec.ofChange Rows.imageRoundSpec) :=
  OpenClaim.holds_of_wide 6 Try.f6 rfl rfl rfl rfl rfl rfl rfl ⟨rfl, rfl, rfl, rfl, rfl⟩ rfl rfl rfl rfl rfl (by kernel_rfl) Try.func6 (by kernel_rfl)
    (of_decide_eq_true (by kernel_rfl)) (by unfold Func.isWrapper; first | (rw [if_pos (by decide +kernel)]; kernel_rfl) | (rw [if_neg (by decide +kernel)]; exact ⟨rfl, rfl⟩))
    (fun os started H enc _ => lifted os started H enc)

theorem proved : Rows.ImageRoundSaid := over
end Go.Proofs.Ytfinpgkehjbcpaa.imageRound

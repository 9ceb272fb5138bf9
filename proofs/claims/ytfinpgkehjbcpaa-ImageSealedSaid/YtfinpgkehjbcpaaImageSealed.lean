/- The law ImageSealed of chapter 05 holds for every input: it returns true, and its arguments stay. No conditions. -/
import Derived.Test.YtfinpgkehjbcpaaRows
import Derived.Test.YtfinpgkehjbcpaaIU
import Derived.Test.YtfinpgkehjbcpaaJG
import Derived.Deep.RegionHeld3
import Derived.Deep.RegionWith
import Derived.Deep.CutBlock
import Derived.WalkKit
import Derived.ProofKit
import Derived.OpenShut
import Derived.ChangeOld
import Derived.Below
namespace Go.Proofs.Ytfinpgkehjbcpaa.imageSealed
open Go.ChangeShapes Go.WideShapes Go.ChangeAt Go.RowKit Go.Deep Go.Joins Go.Maps
set_option linter.unusedVariables false
set_option linter.unusedSimpArgs false

theorem own : ownKnob Try.prog.godebug = none := by kernel_rfl
theorem laidOut : laidOutB Try.prog = true := by kernel_rfl

set_option maxRecDepth 100000 in
set_option maxHeartbeats 40000000 in
theorem walk (w : World) (A0 : Option Addr) (n0 c0 : Nat) (b0 : List Int) (R0 : RawB w A0 n0 c0 b0) (a1 : Int) (r1_ : InI a1) :
    Calls Try.prog 5 #[.slice A0 n0 c0, .int .i64 a1] w fun e w' => e = .returned (.bool true) ∧ Below w.heap.size w w' := by
  have HR0 := Lib.hid R0
  have hj1 := r1_.1
  have hj2 := r1_.2
  have HIN : Hid (InI a1) := Lib.hid r1_
  clear R0 r1_
  go_enter Try.func5, Try.ntmps5
  obtain ⟨k, hk⟩ : ∃ k, min n0 600 = k := ⟨_, rfl⟩
  have hk6 : k ≤ 600 := by omega
  have hkn : k ≤ n0 := by omega
  have HK := Lib.hid hk
  clear hk
  go_upto_if 16 with (fail)
  go_cut [0] (fun v wx => v = .slice A0 k c0 ∧ wx = w)
  case first =>
    have hk := HK.out
    by_cases h6 : 600 < n0
    · have d1 : decide (600 < n0) = true := decide_eq_true h6
      have d2 : decide ((600 : Int) < (n0 : Int)) = true := decide_eq_true (by omega)
      have hle := HR0.out.le
      have hc6 : 600 ≤ c0 := by omega
      have HK6 : Hid (k = 600) := Lib.hid (by omega)
      clear hk
      go_wp2_with fail
      go_meet
      exact ⟨by rw [HK6.out], rfl⟩
    · have d1 : decide (600 < n0) = false := decide_eq_false h6
      have d2 : decide ((600 : Int) < (n0 : Int)) = false := decide_eq_false (by omega)
      have HK6 : Hid (k = n0) := Lib.hid (by omega)
      clear hk
      go_wp2_with fail
      go_meet
      exact ⟨by rw [HK6.out], rfl⟩
  case rest =>
    obtain ⟨rfl, hwc⟩ := hcut
    replace hwc := hwc.symm
    subst hwc
    obtain ⟨z, hz⟩ : ∃ z, b0.take k = z := ⟨_, rfl⟩
    have HZL : Hid (z.length = k) := Lib.hid (by rw [← hz, List.length_take, HR0.out.len]; omega)
    have HZB : Hid (Bytes w A0 z) := Lib.hid (by rw [← hz]; exact HR0.out.bytes.take k)
    have hzi : IsB z := by rw [← hz]; exact fun y hy => HR0.out.isB y (List.mem_of_mem_take hy)
    have HZI := Lib.hid hzi
    have HNI := Lib.hid HR0.out.nil
    have hkc : k ≤ c0 := Nat.le_trans hkn HR0.out.le
    have hcm := HR0.out.cap
    have HMI : Hid (IsB (magicB ++ z)) := Lib.hid (magic_isB.app hzi)
    obtain ⟨mz, hmz⟩ : ∃ n, (magicB ++ z).length = n := ⟨_, rfl⟩
    have HML := Lib.hid hmz
    have hmzb : mz ≤ 604 := by rw [← hmz, List.length_append, HZL.out]; simp [magicB]; omega
    obtain ⟨L2, hL2⟩ : ∃ L2, sealV (magicB ++ z) = L2 := ⟨_, rfl⟩
    have HL2 := Lib.hid hL2
    have HI2 : Hid (IsB L2) := Lib.hid (by rw [← hL2]; exact seal_isB HMI.out)
    have hlen2 : L2.length ≤ 100000 := by rw [← hL2]; unfold sealV tailV; rw [List.length_append, hmz]; simp; omega
    clear hz hzi hmz hL2
    go_upto_region 7 with (first | (at_builtin; refine wpList_magic rfl _ _ rfl rfl rfl ?_; intro v1 w1 hi1 hb1; have HI1 := Lib.hid hi1; have HB1 := Lib.hid hb1; clear hi1 hb1) | (at_builtin; refine wpList_bytes rfl _ _ rfl w.heap.size _ magicB rfl HI1.out (A := A0) (m := k) (c := c0) (ns := z) rfl HNI.out HZL.out (HZB.out.below HB1.out) (by have := hk6; simp [magicB]; omega) HB1.out.size ?_; intro v2 w2 hi2 hg2 ha2; have hb2 : Below w.heap.size w w2 := below_grownB HB1.out hg2 (fun q hq => (World.ownsRow.lt HI1.out q hq).1) (Nat.le_refl _); obtain ⟨A2, c2, hv2, hq1, hq2, hq3, hq4⟩ := hi2.bytes; subst hv2; rw [HML.out] at hi2 ⊢; clear hq1 hq2; have HC2 := Lib.hid hq3; have HY2 := Lib.hid hq4; have HB2 := Lib.hid hb2; clear hi2 hg2 ha2 hb2 hq3 hq4) | (go_at_call 21; (with_reducible refine (sealedN HY2.out HC2.out HMI.out HML.out (by omega)).mono ?_); rintro e w3 ⟨A3, n3, c3, rfl, hn3, hnc3, hcm3, hby3, hb3⟩; rw [HL2.out] at hn3 hby3; have HN3 := Lib.hid hn3.symm; have hn3b : n3 ≤ 100000 := (by rw [hn3]; exact hlen2); have HY3 := Lib.hid hby3; have HB3 := Lib.hid (HB2.out.trans (hb3.mono HB2.out.size)); clear hby3 hb3 hn3))
    have HB0 := Lib.hid HB3.out
    cases him : imgV L2 with
    | none =>
      have HRL : Hid (readV L2 a1 = (none, 7)) := Lib.hid (by unfold readV; rw [him])
      clear him
      go_wp2_with (first | (go_at_call 17; (with_reducible refine (read_any (n := n3) HY3.out HI2.out HN3.out hnc3 hcm3 (by omega) a1 HIN.out).mono ?_); intro e w4 hr; obtain ⟨he, hb⟩ := read_no hr HRL.out; subst he; have HB4 := Lib.hid hb; have HBX := Lib.hid (HB0.out.trans (hb.mono HB0.out.size)); clear hr hb) | (go_at_call 18; (with_reducible refine (rread_any (n := n3) (HY3.out.below HB4.out) HI2.out HN3.out hnc3 hcm3 (by omega) a1 HIN.out).mono ?_); intro e w5 hr; obtain ⟨he, hb⟩ := rread_no hr HRL.out; subst he; replace HBX := Lib.hid (HBX.out.trans (hb.mono HBX.out.size)); clear hr hb) | (go_at_call 16; (with_reducible refine (lives_any _).mono ?_); rintro e w9 ⟨rfl, hb⟩; replace HBX := Lib.hid (HBX.out.trans (hb.mono HBX.out.size)); clear hb))
      go_ret
      exact ⟨ret_bool (by simp), HBX.out⟩
    | some x =>
      have HF4 := img_few HI2.out him
      by_cases hroom : okN a1 = true ∧ ((3 + szT x.ts : Nat) : Int) ≤ a1
      · have HRL : Hid (readV L2 a1 = (some x, 0)) := Lib.hid (by unfold readV; rw [him]; exact if_pos hroom)
        obtain ⟨nw, hnw⟩ : ∃ nw, x.ws.length = nw := ⟨_, rfl⟩
        rw [hnw] at HF4
        have HNW := Lib.hid hnw
        have HNM : Hid ((x.ws.map (realI x.ts)).length = nw) := Lib.hid (by rw [List.length_map]; exact hnw)
        have HSZ : Hid (a1 = ((a1.toNat : Nat) : Int)) := Lib.hid (by have := (okN_iff.1 hroom.1).1; omega)
        clear him hroom hnw
        go_wp2_with (first | (go_at_call 17; (with_reducible refine (read_any (n := n3) HY3.out HI2.out HN3.out hnc3 hcm3 (by omega) a1 HIN.out).mono ?_); intro e w4 hr; obtain ⟨s, bw, bm, A4, c4, he, hn4, hp4, hb⟩ := read_yes' hr HRL.out HNW.out; subst he; have HB4 := Lib.hid hb; have HN4 := Lib.hid hn4; have HP4 := Lib.hid hp4; have HBX := Lib.hid (HB0.out.trans (hb.mono HB0.out.size)); clear hr hb hn4 hp4) | (go_at_call 18; (with_reducible refine (rread_any (n := n3) (HY3.out.below HB4.out) HI2.out HN3.out hnc3 hcm3 (by omega) a1 HIN.out).mono ?_); intro e w5 hr; obtain ⟨r, R, lv, fv, A5, c5, he, hn5, hp5, hb⟩ := rread_yes hr HRL.out HNW.out; subst he; replace HBX := Lib.hid (HBX.out.trans (hb.mono HBX.out.size)); replace HN4 := Lib.hid (HN4.out.below hb); replace HP4 := Lib.hid (HP4.out.below hb); have HN5 := Lib.hid hn5; have HP5 := Lib.hid hp5; clear hr hb hn5 hp5) | (go_at_call 19; (with_reducible refine (sameN' HN4.out HN5.out HNM.out (by omega)).mono ?_); rintro e w7 ⟨rfl, hb⟩; replace HBX := Lib.hid (HBX.out.trans (hb.mono HBX.out.size)); replace HP4 := Lib.hid (HP4.out.below hb); replace HP5 := Lib.hid (HP5.out.below hb); clear hb) | (go_at_call 20; (with_reducible refine (like_any HP4.out HP5.out rfl rfl a1 HSZ.out).mono ?_); rintro e w8 ⟨rfl, hb⟩; replace HBX := Lib.hid (HBX.out.trans (hb.mono HBX.out.size)); clear hb) | (go_at_call 16; (with_reducible refine (lives_any _).mono ?_); rintro e w9 ⟨rfl, hb⟩; replace HBX := Lib.hid (HBX.out.trans (hb.mono HBX.out.size)); clear hb))
        go_ret
        exact ⟨ret_bool (by simp), HBX.out⟩
      · have HRL : Hid (readV L2 a1 = (none, 4)) := Lib.hid (by unfold readV; rw [him]; exact if_neg hroom)
        clear him hroom
        go_wp2_with (first | (go_at_call 17; (with_reducible refine (read_any (n := n3) HY3.out HI2.out HN3.out hnc3 hcm3 (by omega) a1 HIN.out).mono ?_); intro e w4 hr; obtain ⟨he, hb⟩ := read_no hr HRL.out; subst he; have HB4 := Lib.hid hb; have HBX := Lib.hid (HB0.out.trans (hb.mono HB0.out.size)); clear hr hb) | (go_at_call 18; (with_reducible refine (rread_any (n := n3) (HY3.out.below HB4.out) HI2.out HN3.out hnc3 hcm3 (by omega) a1 HIN.out).mono ?_); intro e w5 hr; obtain ⟨he, hb⟩ := rread_no hr HRL.out; subst he; replace HBX := Lib.hid (HBX.out.trans (hb.mono HBX.out.size)); clear hr hb) | (go_at_call 16; (with_reducible refine (lives_any _).mono ?_); rintro e w9 ⟨rfl, hb⟩; replace HBX := Lib.hid (HBX.out.trans (hb.mono HBX.out.size)); clear hb))
        go_ret
        exact ⟨ret_bool (by simp), HBX.out⟩


/-! ### the row's step -/
set_option maxRecDepth 100000 in
theorem lifted (os : Os) (started : os.Started) (H : Type) (enc : TypeId × Value → H) :
    ReturnsInHanded {} Try.checked os 5 .any (Rows.imageSealedSpec.pre6 enc Try.prog Try.f5 Rows.imageSealedRow.domain false) (Rows.imageSealedSpec.post enc Try.prog Try.f5 false true false false) := by
  refine returnsInHanded_of_change (C := Try.checked) own started (by kernel_rfl) Try.func5
    (ChangeSpec.witness6 (enc := enc) (C := Try.checked) false ⟨#[], #[.slice none 0 0, .int .i64 0], []⟩ 8 (by kernel_rfl) (by kernel_rfl) (by kernel_rfl) (by kernel_rfl)) ?_
  intro W base args ds gs before hval0 hW hcnd _
  have hval : ∀ (j : Nat) t v, Try.f5.params[j]? = some t → args[j]? = some v → Value.okWide Try.prog W .any base t v := hval0
  have hW' := hW
  obtain ⟨p, q, hA0, hV, rfl, hfz, hnd⟩ := hW
  have hA : DataW.TrodAll enc Try.prog W 0 (fun _ => true) true Try.f5.params.toList args.toList ds p := hA0
  rw [Try.params5] at hA hval
  obtain ⟨v0, vs0, d0, ds0, p0, q0, hargs, rfl, rfl, h0, r0⟩ := trodAll_cons hA
  obtain ⟨v1, vs1, d1, ds1, p1, q1, rfl, rfl, rfl, h1, r1⟩ := trodAll_cons r0
  obtain ⟨rfl, rfl, rfl⟩ := trodAll_nil r1
  obtain rfl : args = #[v0, v1] := by cases args; simp_all
  obtain ⟨rfl, rfl⟩ := trodVars_none hV
  have k0 := h0
  have lt0 : ∀ x ∈ p0, x.block < W.heap.size := by obtain ⟨m, hm⟩ := k0; exact DataW.trod_lt m _ _ _ hm
  obtain ⟨A0, n0, c0, C0, rfl, R0⟩ := open_bytes (hval 0 30 v0 rfl rfl) h0
  obtain ⟨a1, rfl, rfl, rfl, w1⟩ := open_int Try.underlying3 (hval 1 3 v1 rfl rfl) h1
  clear hA0 hval0
  refine (walk W _ _ _ _ R0 _ (bounds_i64 w1)).mono fun e W' ⟨he, bel⟩ => ?_
  subst he
  exact ⟨_, rfl, _, _, _, [], _, [], hW', trodAll_mk1 (shut_bool Try.underlying4 _), (trodAll_cons_mk (Below.trod laidOut (by kernel_rfl) (of_decide_eq_true (by kernel_rfl)) k0 bel lt0) (trodAll_cons_mk (shut_int Try.underlying3 w1) trodAll_mk0)), rfl, bel.frame _, fun h => by cases h⟩

theorem over : Rows.imageSealedRow.holds Try.pinned (OpenSpec.ofChange Rows.imageSealedSpec) :=
  OpenClaim.holds_of_wide 5 Try.f5 rfl rfl rfl rfl rfl rfl rfl ⟨rfl, rfl, rfl, rfl, rfl⟩ rfl rfl rfl rfl rfl (by kernel_rfl) Try.func5 (by kernel_rfl)
    (of_decide_eq_true (by kernel_rfl)) (by unfold Func.isWrapper; first | (rw [if_pos (by decide +kernel)]; kernel_rfl) | (rw [if_neg (by decide +kernel)]; exact ⟨rfl, rfl⟩))
    (fun os started H enc _ => lifted os started H enc)

theorem proved : Rows.ImageSealedSaid := over
end Go.Proofs.Ytfinpgkehjbcpaa.imageSealed

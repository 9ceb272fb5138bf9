/- The law ImageWrites of chapter 05 holds for every input: it returns true, and its arguments stay. No conditions. -/
import Derived.Test.YtfinpgkehjbcpaaRows
import Derived.Test.YtfinpgkehjbcpaaIU
import Derived.Test.YtfinpgkehjbcpaaIH
import Derived.Deep.RegionHeld3
import Derived.Deep.RegionWith
import Derived.Deep.CutBlock
import Derived.WalkKit
import Derived.ProofKit
import Derived.OpenShut
import Derived.ChangeOld
import Derived.Below
namespace Go.Proofs.Ytfinpgkehjbcpaa.imageWrites
open Go.ChangeShapes Go.WideShapes Go.ChangeAt Go.RowKit Go.Deep Go.Joins Go.Maps
set_option linter.unusedVariables false
set_option linter.unusedSimpArgs false

theorem own : ownKnob Try.prog.godebug = none := by kernel_rfl
theorem laidOut : laidOutB Try.prog = true := by kernel_rfl
theorem wempty {w w' : World} {m : Hp} {js : List Int} {e : Ending} (h : writeV m js = ([], 1)) (hw : WriteP w m js e w') : ∃ A c, e = .returned (.tuple #[.slice A 0 c, .int .i64 1]) ∧ (∀ W : World, (convert 30 9 (.slice A 0 c)).run Try.prog W = .ok (.string ByteArray.empty) W) ∧ Below w.heap.size w w' := by
  obtain ⟨v, he, hi, hb⟩ := hw
  rw [h] at he hi
  rcases hi.2 with ⟨hv, _⟩ | ⟨g, cap, cur, hv, _, _, _⟩
  · subst hv
    exact ⟨none, 0, he, fun W => run_convert_bytes_nil (P := Try.prog) W 30 5 Try.underlying30 Try.underlying5 0 0 9 Try.underlying9, hb⟩
  · subst hv
    exact ⟨some ⟨g, 0, none⟩, cap, he, fun W => run_convert_bytes_arg (P := Try.prog) W 30 5 Try.underlying30 Try.underlying5 g 0 0 cap [] rfl (fun i hi => absurd hi (by omega)) 9 Try.underlying9, hb⟩
set_option maxRecDepth 100000 in
set_option maxHeartbeats 16000000 in
theorem bytes0 {w : World} {A B : Option Addr} {c d : Nat} (h1 : (convert 30 9 (.slice A 0 c)).run Try.prog w = .ok (.string ByteArray.empty) w) (h2 : (convert 30 9 (.slice B 0 d)).run Try.prog w = .ok (.string ByteArray.empty) w) : Calls Try.prog 15 #[.slice A 0 c, .slice B 0 d] w fun e w' => e = .returned (.bool true) ∧ w' = w := by
  obtain ⟨st, hst⟩ : ∃ st, ByteArray.empty = st := ⟨_, rfl⟩
  rw [hst] at h1 h2
  clear hst
  go_enter Try.func15, Try.ntmps15
  go_wp2_with fail
  go_ret
  exact ⟨ret_bool (by simp), rfl⟩

set_option maxRecDepth 100000 in
set_option maxHeartbeats 40000000 in
theorem walk (w : World) (A0 : Option Addr) (n0 c0 : Nat) (T0 : Nat → ThT) (R0 : RawT w A0 n0 c0 T0) (A1 : Option Addr) (n1 c1 : Nat) (l1 : List Int) (R1 : RawN w A1 n1 c1 l1) :
    Calls Try.prog 3 #[.slice A0 n0 c0, .slice A1 n1 c1] w fun e w' => e = .returned (.bool true) ∧ Below w.heap.size w w' := by
  have HR0 := Lib.hid R0
  have HR1 := Lib.hid R1
  obtain ⟨m, hmd⟩ : ∃ m, madeV T0 n0 = m := ⟨_, rfl⟩
  have HMD := Lib.hid hmd
  have HS1 : Hid (Snd1 m) := Lib.hid (by rw [← hmd]; exact snd_made _ _)
  have HSN : Hid (Snd m) := Lib.hid HS1.out.1
  have HSI : Hid (m.size = 2000) := Lib.hid (by rw [← hmd]; exact size_made _ _)
  have HL20 : Hid (m.L.length ≤ 20) := Lib.hid (by rw [← hmd]; exact len_made _ _)
  obtain ⟨pn, hpn⟩ : ∃ pn, m.L.length = pn := ⟨_, rfl⟩
  have HPN := Lib.hid hpn
  have HPL : Hid ((ptrs m.L).length = pn) := Lib.hid (by rw [← hpn]; simp [ptrs])
  have hpb : pn ≤ 1000000 := by rw [← hpn]; have := HL20.out; omega
  obtain ⟨x, hx⟩ : ∃ x, allV (ptrs m.L) l1 = x := ⟨_, rfl⟩
  obtain ⟨xn, hxn⟩ : ∃ n, x.length = n := ⟨_, rfl⟩
  have HX := Lib.hid hx
  have HXN := Lib.hid hxn
  have HXL : Hid ((allV (ptrs m.L) l1).length = xn) := Lib.hid (by rw [hx]; exact hxn)
  have hx10 : xn ≤ 10 := by rw [← hxn, ← hx]; exact allV_len _ _
  clear hmd R0 R1 hpn hx hxn
  go_enter Try.func3, Try.ntmps3
  go_upto_region 5 with (first | (go_at_call 10; (with_reducible refine (madeM HR0.out HMD.out).mono ?_); rintro e w1 ⟨s, bw, bm, r, R, lv, fv, rfl, hmm⟩; have HM := Lib.hid hmm; clear hmm) | (go_at_call 12; (with_reducible refine (robjL HM.out.q rfl HPN.out).mono ?_); rintro e w2 ⟨A9, c9, rfl, hn, hb⟩; have HN9 := Lib.hid hn; replace HM := Lib.hid (HM.out.below hb); clear hn hb) | (go_at_call 11; (with_reducible refine (rootsN HN9.out HPL.out (HR1.out.nums.below HM.out.b) HR1.out.len HXL.out hpb (Nat.le_trans HR1.out.le HR1.out.cap) HR1.out.int).mono ?_); rw [HX.out]; rintro e w3 ⟨B9, d9, rfl, hn, hb⟩; have HNX := Lib.hid hn; replace HM := Lib.hid (HM.out.below hb); clear hn hb))
  by_cases hcan : (∀ y, y ∈ x → mayV m.L y = true) ∧ (∀ o, o ∈ m.L → oddO o = false)
  · have hwr : Wr m x := ⟨HM.out.p.good, HSN.out, HS1.out.2, by rw [HXN.out]; omega, hcan.1, hcan.2⟩
    have HWR := Lib.hid hwr
    obtain ⟨L2, hL2⟩ : ∃ L2, sealV (bodyB m x) = L2 := ⟨_, rfl⟩
    have HI2 : Hid (IsB L2) := Lib.hid (by rw [← hL2]; exact seal_isB (body_isB hwr.snd x))
    have hlen2 : L2.length ≤ 100000 := by rw [← hL2]; exact body_few hwr HL20.out (by rw [HXN.out]; exact hx10)
    have HL2 := Lib.hid hL2
    have HWB : Hid ((wsOf m x).map (realI (tsOf m)) = x) := Lib.hid (ws_back hwr)
    have HBB : Hid (bldL (tsOf m) = m.L) := Lib.hid (bld_back hwr.good hwr.snd)
    have hpos2 : 0 < L2.length := by rw [← hL2]; unfold sealV; rw [List.length_append]; have := body_len m x; omega
    have HPO := Lib.hid hpos2
    clear hwr hL2 hcan hpos2
    go_upto_region 6 with (first | (go_at_call 13; (with_reducible refine (write_any HM.out.p HWR.out.snd HNX.out HXN.out (by omega)).mono ?_); intro e w4 hw; obtain ⟨A2, n2, c2, he, hn2, hnc2, hcm2, hby2, hab2, hbi2, hb2⟩ := write_ok HWR.out hw; subst he; rw [HL2.out] at hn2 hby2 hbi2; have hn2b : n2 ≤ 100000 := (by rw [hn2]; exact hlen2); have HN2 := Lib.hid hn2.symm; have HBY2 := Lib.hid hby2; have HAB2 := Lib.hid hab2; have HBI2 := Lib.hid hbi2; replace HNX := Lib.hid (HNX.out.below hb2); replace HM := Lib.hid (HM.out.below hb2); clear hw hby2 hab2 hbi2 hb2 hn2))
    have hpos : 0 < n2 := by rw [← HN2.out]; exact HPO.out
    go_wp2_with (first | (go_at_call 14; (with_reducible refine (rwrite_any HM.out.q HWR.out.snd HNX.out HXN.out (by omega)).mono ?_); intro e w5 hw; obtain ⟨A6, n6, c6, he, hn6, hnc6, hcm6, hby6, _, _, hb6⟩ := write_ok HWR.out hw; subst he; rw [HL2.out] at hn6 hby6; have hn62 : n6 = n2 := hn6.trans HN2.out; subst hn62; have HBY6 := Lib.hid hby6; replace HBY2 := Lib.hid (HBY2.out.below hb6); replace HM := Lib.hid (HM.out.below hb6); clear hw hby6 hb6 hn6) | (go_at_call 15; (with_reducible refine (bytes_any HBY2.out HBY6.out HN2.out hpos).mono ?_); rintro e w9 ⟨rfl, hw9⟩; replace hw9 := hw9.symm; subst hw9) | (go_at_call 13; (with_reducible refine (write_nil _ _ _ _).mono ?_); rintro e w8 ⟨rfl, hb⟩; replace HM := Lib.hid (HM.out.below hb); clear hb) | (go_at_call 16; (with_reducible refine (lives_any _).mono ?_); rintro e w9 ⟨rfl, hb⟩; replace HM := Lib.hid (HM.out.below hb); clear hb))
    go_ret
    exact ⟨ret_bool (by simp), HM.out.b⟩
  · skip
    have HWB : Hid (writeV m x = ([], 1)) := Lib.hid (by unfold writeV; rw [if_neg (fun q => hcan q.2)])
    clear hcan
    go_wp2_with (first | (go_at_call 13; (with_reducible refine (write_any HM.out.p HSN.out HNX.out HXN.out (by omega)).mono ?_); intro e w4 hw; obtain ⟨A2, c2, he, hk2, hb2⟩ := wempty HWB.out hw; subst he; have HK2 := Lib.hid hk2; replace HNX := Lib.hid (HNX.out.below hb2); replace HM := Lib.hid (HM.out.below hb2); clear hw hb2 hk2) | (go_at_call 14; (with_reducible refine (rwrite_any HM.out.q HSN.out HNX.out HXN.out (by omega)).mono ?_); intro e w5 hw; obtain ⟨A6, c6, he, hk6, hb6⟩ := wempty HWB.out hw; subst he; have HK6 := Lib.hid hk6; replace HM := Lib.hid (HM.out.below hb6); clear hw hb6 hk6) | (go_at_call 15; (with_reducible refine (bytes0 (HK2.out _) (HK6.out _)).mono ?_); rintro e w9 ⟨rfl, hw9⟩; replace hw9 := hw9.symm; subst hw9) | (go_at_call 13; (with_reducible refine (write_nil _ _ _ _).mono ?_); rintro e w8 ⟨rfl, hb⟩; replace HM := Lib.hid (HM.out.below hb); clear hb) | (go_at_call 16; (with_reducible refine (lives_any _).mono ?_); rintro e w9 ⟨rfl, hb⟩; replace HM := Lib.hid (HM.out.below hb); clear hb))
    go_ret
    exact ⟨ret_bool (by simp), HM.out.b⟩


/-! ### the row's step -/
set_option maxRecDepth 100000 in
theorem lifted (os : Os) (started : os.Started) (H : Type) (enc : TypeId × Value → H) :
    ReturnsInHanded {} Try.checked os 3 .any (Rows.imageWritesSpec.pre6 enc Try.prog Try.f3 Rows.imageWritesRow.domain false) (Rows.imageWritesSpec.post enc Try.prog Try.f3 false true false false) := by
  refine returnsInHanded_of_change (C := Try.checked) own started (by kernel_rfl) Try.func3
    (ChangeSpec.witness6 (enc := enc) (C := Try.checked) false ⟨#[], #[.slice none 0 0, .slice none 0 0], []⟩ 8 (by kernel_rfl) (by kernel_rfl) (by kernel_rfl) (by kernel_rfl)) ?_
  intro W base args ds gs before hval0 hW hcnd _
  have hval : ∀ (j : Nat) t v, Try.f3.params[j]? = some t → args[j]? = some v → Value.okWide Try.prog W .any base t v := hval0
  have hW' := hW
  obtain ⟨p, q, hA0, hV, rfl, hfz, hnd⟩ := hW
  have hA : DataW.TrodAll enc Try.prog W 0 (fun _ => true) true Try.f3.params.toList args.toList ds p := hA0
  rw [Try.params3] at hA hval
  obtain ⟨v0, vs0, d0, ds0, p0, q0, hargs, rfl, rfl, h0, r0⟩ := trodAll_cons hA
  obtain ⟨v1, vs1, d1, ds1, p1, q1, rfl, rfl, rfl, h1, r1⟩ := trodAll_cons r0
  obtain ⟨rfl, rfl, rfl⟩ := trodAll_nil r1
  obtain rfl : args = #[v0, v1] := by cases args; simp_all
  obtain ⟨rfl, rfl⟩ := trodVars_none hV
  have k0 := h0
  have lt0 : ∀ x ∈ p0, x.block < W.heap.size := by obtain ⟨m, hm⟩ := k0; exact DataW.trod_lt m _ _ _ hm
  obtain ⟨A0, n0, c0, C0, rfl, R0⟩ := open_things (hval 0 22 v0 rfl rfl) h0
  have k1 := h1
  have lt1 : ∀ x ∈ p1, x.block < W.heap.size := by obtain ⟨m, hm⟩ := k1; exact DataW.trod_lt m _ _ _ hm
  obtain ⟨A1, n1, c1, C1, rfl, R1⟩ := open_nlist (hval 1 23 v1 rfl rfl) h1
  clear hA0 hval0
  refine (walk W _ _ _ _ R0 _ _ _ _ R1).mono fun e W' ⟨he, bel⟩ => ?_
  subst he
  exact ⟨_, rfl, _, _, _, [], _, [], hW', trodAll_mk1 (shut_bool Try.underlying4 _), (trodAll_cons_mk (Below.trod laidOut (by kernel_rfl) (of_decide_eq_true (by kernel_rfl)) k0 bel lt0) (trodAll_cons_mk (Below.trod laidOut (by kernel_rfl) (of_decide_eq_true (by kernel_rfl)) k1 bel lt1) trodAll_mk0)), rfl, bel.frame _, fun h => by cases h⟩

theorem over : Rows.imageWritesRow.holds Try.pinned (OpenSpec.ofChange Rows.imageWritesSpec) :=
  OpenClaim.holds_of_wide 3 Try.f3 rfl rfl rfl rfl rfl rfl rfl ⟨rfl, rfl, rfl, rfl, rfl⟩ rfl rfl rfl rfl rfl (by kernel_rfl) Try.func3 (by kernel_rfl)
    (of_decide_eq_true (by kernel_rfl)) (by unfold Func.isWrapper; first | (rw [if_pos (by decide +kernel)]; kernel_rfl) | (rw [if_neg (by decide +kernel)]; exact ⟨rfl, rfl⟩))
    (fun os started H enc _ => lifted os started H enc)

theorem proved : Rows.ImageWritesSaid := over
end Go.Proofs.Ytfinpgkehjbcpaa.imageWrites

/- The law SwapFinds of chapter 04 holds for every input: it returns true, and its arguments stay. No conditions. -/
import Derived.Test.YthonodimjglnfaaRows
import Derived.Test.YthonodimjglnfaaSJ
import Derived.Test.YthonodimjglnfaaSK
import Derived.Deep.RegionHeld3
import Derived.Deep.RegionWith
import Derived.Deep.CutBlock
import Derived.WalkKit
import Derived.ProofKit
import Derived.OpenShut
import Derived.ChangeOld
import Derived.Below
namespace Go.Proofs.Ythonodimjglnfaa.swapFinds
open Go.ChangeShapes Go.WideShapes Go.ChangeAt Go.RowKit Go.Deep Go.Joins Go.Maps
set_option linter.unusedVariables false
set_option linter.unusedSimpArgs false

theorem own : ownKnob Try.prog.godebug = none := by kernel_rfl
theorem laidOut : laidOutB Try.prog = true := by kernel_rfl

set_option maxRecDepth 100000 in
set_option maxHeartbeats 40000000 in
theorem walk (w : World) (A0 : Option Addr) (n0 c0 : Nat) (T0 : Nat → ThT) (R0 : RawT w A0 n0 c0 T0) (a1 : Int) (r1_ : InI a1) :
    Calls Try.prog 3 #[.slice A0 n0 c0, .int .i64 a1] w fun e w' => e = .returned (.bool true) ∧ Below w.heap.size w w' := by
  have HR0 := Lib.hid R0
  have HI1 := Lib.hid r1_
  obtain ⟨m, hmd⟩ : ∃ m, madeV T0 n0 = m := ⟨_, rfl⟩
  have HMD := Lib.hid hmd
  clear hmd R0  r1_
  go_enter Try.func3, Try.ntmps3
  go_upto_region 4 with (first | (go_at_call 10; (with_reducible refine (things_any HR0.out).mono ?_); rw [HMD.out]; rintro e w1 ⟨s, r, rfl, hst⟩; have HG := Lib.hid hst; clear hst))
  obtain ⟨o, ho⟩ : ∃ o, ptrs m.L = o := ⟨_, rfl⟩
  obtain ⟨pn, hpn⟩ : ∃ pn, o.length = pn := ⟨_, rfl⟩
  have HO := Lib.hid ho
  have HPN : Hid ((ptrs m.L).length = pn) := Lib.hid (by rw [ho]; exact hpn)
  have HPNO := Lib.hid hpn
  have hpb : pn ≤ 1000000 := by rw [← hpn, ← ho]; exact Nat.le_trans (ptrs_len HG.out.goodp) (by decide)
  have HPI : Hid (∀ x, x ∈ o → InI x) := Lib.hid (by rw [← ho]; exact ptrs_in HG.out.goodp)
  clear hpn ho
  obtain ⟨wv, hwv⟩ : ∃ x, wordV o a1 = x := ⟨_, rfl⟩
  have HWV := Lib.hid hwv
  obtain ⟨n7, h7⟩ : ∃ n, (ofV m wv).length = n := ⟨_, rfl⟩
  have HOF := Lib.hid h7
  obtain ⟨n8, h8⟩ : ∃ n, (if isV m.L wv = true then (ptrs m.L).filter (ptP m wv) else []).length = n := ⟨_, rfl⟩
  have HPTL := Lib.hid h8
  clear hwv h7 h8
  go_wp2_with (first | (go_at_call 12; (with_reducible refine (g_robjects HG.out HPN.out).mono ?_); rw [HO.out]; rintro e w2 ⟨A9, c9, X1, hX, rfl, hL, hst, hb⟩; have HLO := Lib.hid hL; replace HG := Lib.hid hst; clear hL hst hb hX) | (go_at_call 11; (with_reducible refine (word_any' HLO.out.nums HPNO.out (Nat.le_trans (Nat.le_of_eq HPNO.out) hpb) a1 HI1.out).mono ?_); rw [HWV.out]; rintro e w3 ⟨rfl, hw3⟩; replace hw3 := hw3.symm; subst hw3) | (go_at_call 14; (with_reducible refine (g_of HG.out wv HOF.out).mono ?_); rintro e w4 ⟨ALA, cLA, XLA, hX, rfl, hL, hst, hb⟩; have HLA := Lib.hid hL;  replace HG := Lib.hid hst; clear hL hst hb hX) | (go_at_call 15; (with_reducible refine (gr_of HG.out wv HOF.out).mono ?_); rintro e w4 ⟨ALB, cLB, XLB, hX, rfl, hL, hst, hb⟩; have HLB := Lib.hid hL; replace HLA := Lib.hid (Lst.grow (Off.below HLA.out hb) hX); replace HG := Lib.hid hst; clear hL hst hb hX) | (go_at_call 16; (with_reducible refine (g_pt HG.out wv HPTL.out).mono ?_); rintro e w4 ⟨ALC, cLC, XLC, hX, rfl, hL, hst, hb⟩; have HLC := Lib.hid hL;  replace HG := Lib.hid hst; clear hL hst hb hX) | (go_at_call 17; (with_reducible refine (gr_pt HG.out wv HPTL.out).mono ?_); rintro e w4 ⟨ALD, cLD, XLD, hX, rfl, hL, hst, hb⟩; have HLD := Lib.hid hL; replace HLC := Lib.hid (Lst.grow (Off.below HLC.out hb) hX); replace HG := Lib.hid hst; clear hL hst hb hX) | (go_at_call_of 13 ALA; (with_reducible refine (same_lst HLA.out HLB.out).mono ?_); rintro e w8 ⟨rfl, hb⟩; replace HG := Lib.hid (HG.out.below hb); clear hb) | (go_at_call_of 13 ALC; (with_reducible refine (same_lst HLC.out HLD.out).mono ?_); rintro e w8 ⟨rfl, hb⟩; replace HG := Lib.hid (HG.out.below hb); clear hb) | (go_at_call 14; (with_reducible refine (of_nil wv).mono ?_); rintro e w4 ⟨rfl, hb⟩; replace HG := Lib.hid (HG.out.below hb); clear hb) | (go_at_call 16; (with_reducible refine (pt_nil wv).mono ?_); rintro e w4 ⟨rfl, hb⟩; replace HG := Lib.hid (HG.out.below hb); clear hb) | (go_at_call 18; (with_reducible refine (lives_any _).mono ?_); rintro e w9 ⟨rfl, hb⟩; replace HG := Lib.hid (HG.out.below hb); clear hb))
  go_ret
  exact ⟨ret_bool (by simp), HG.out.stays⟩


/-! ### the row's step -/
set_option maxRecDepth 100000 in
theorem lifted (os : Os) (started : os.Started) (H : Type) (enc : TypeId × Value → H) :
    ReturnsInHanded {} Try.checked os 3 .any (Rows.swapFindsSpec.pre6 enc Try.prog Try.f3 Rows.swapFindsRow.domain false) (Rows.swapFindsSpec.post enc Try.prog Try.f3 false true false false) := by
  refine returnsInHanded_of_change (C := Try.checked) own started (by kernel_rfl) Try.func3
    (ChangeSpec.witness6 (enc := enc) (C := Try.checked) false ⟨#[], #[.slice none 0 0, .int .i64 0], []⟩ 8 (by kernel_rfl) (by kernel_rfl) (by kernel_rfl) (by kernel_rfl)) ?_
  intro W base args ds gs before hval0 hW hcnd _
  have hval : ∀ (j : Nat) t v, Try.f3.params[j]? = some t → args[j]? = some v → Value.okWide Try.prog W .any base t v := hval0
  have hW' := hW
  obtain ⟨p, q, hA0, hV, rfl, hfz, hnd⟩ := hW
  have hA : DataW.TrodAll enc Try.prog W 0 (fun _ => true) true Try.f3.params.toList args.toList ds p := hA0
  rw [Try.params3] at hA hval
  obtain ⟨v0, vs0, d0, ds0, p0, q0, hargs, rfl, rfl, h0, r0⟩ := trodAll_cons hA
  obtain ⟨v1, vs1, d1, ds1, p1, q1, rfl, rfl, rfl, h1, r1⟩ := trodAll_cons r0
  obtain ⟨rfl, rfl, rfl⟩ := trodAll_nil r1
  obtain rfl : args = #[v0, v1] := by cases args; simp_all
  obtain ⟨rfl, rfl⟩ := trodVars_none hV
  have k0 := h0
  have lt0 : ∀ x ∈ p0, x.block < W.heap.size := by obtain ⟨m, hm⟩ := k0; exact DataW.trod_lt m _ _ _ hm
  obtain ⟨A0, n0, c0, C0, rfl, R0⟩ := open_things (hval 0 22 v0 rfl rfl) h0
  obtain ⟨a1, rfl, rfl, rfl, w1⟩ := open_int Try.underlying3 (hval 1 3 v1 rfl rfl) h1
  clear hA0 hval0
  refine (walk W _ _ _ _ R0 _ (bounds_i64 w1)).mono fun e W' ⟨he, bel⟩ => ?_
  subst he
  exact ⟨_, rfl, _, _, _, [], _, [], hW', trodAll_mk1 (shut_bool Try.underlying4 _), (trodAll_cons_mk (Below.trod laidOut (by kernel_rfl) (of_decide_eq_true (by kernel_rfl)) k0 bel lt0) (trodAll_cons_mk (shut_int Try.underlying3 w1) trodAll_mk0)), rfl, bel.frame _, fun h => by cases h⟩

theorem over : Rows.swapFindsRow.holds Try.pinned (OpenSpec.ofChange Rows.swapFindsSpec) :=
  OpenClaim.holds_of_wide 3 Try.f3 rfl rfl rfl rfl rfl rfl rfl ⟨rfl, rfl, rfl, rfl, rfl⟩ rfl rfl rfl rfl rfl (by kernel_rfl) Try.func3 (by kernel_rfl)
    (of_decide_eq_true (by kernel_rfl)) (by unfold Func.isWrapper; first | (rw [if_pos (by decide +kernel)]; kernel_rfl) | (rw [if_neg (by decide +kernel)]; exact ⟨rfl, rfl⟩))
    (fun os started H enc _ => lifted os started H enc)

theorem proved : Rows.SwapFindsSaid := over
end Go.Proofs.Ythonodimjglnfaa.swapFinds

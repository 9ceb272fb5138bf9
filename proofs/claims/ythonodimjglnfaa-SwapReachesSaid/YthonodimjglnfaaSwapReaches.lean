/- The law SwapReaches of chapter 04 holds for every input: it returns true, and its arguments stay. No conditions. -/
import Derived.Test.YthonodimjglnfaaRows
import Derived.Test.YthonodimjglnfaaSL
import Derived.Deep.RegionHeld3
import Derived.Deep.RegionWith
import Derived.Deep.CutBlock
import Derived.WalkKit
import Derived.ProofKit
import Derived.OpenShut
import Derived.ChangeOld
import Derived.Below
namespace Go.Proofs.Ythonodimjglnfaa.swapReaches
open Go.ChangeShapes Go.WideShapes Go.ChangeAt Go.RowKit Go.Deep Go.Joins Go.Maps
set_option linter.unusedVariables false
set_option linter.unusedSimpArgs false

theorem own : ownKnob Try.prog.godebug = none := by kernel_rfl
theorem laidOut : laidOutB Try.prog = true := by kernel_rfl

set_option maxRecDepth 100000 in
set_option maxHeartbeats 40000000 in
theorem walk (w : World) (A0 : Option Addr) (n0 c0 : Nat) (T0 : Nat → ThT) (R0 : RawT w A0 n0 c0 T0) (a1 : Int) (r1_ : InI a1) (a2 : Int) (r2_ : InI a2) :
    Calls Try.prog 5 #[.slice A0 n0 c0, .int .i64 a1, .int .i64 a2] w fun e w' => e = .returned (.bool true) ∧ Below w.heap.size w w' := by
  have HR0 := Lib.hid R0
  have HI1 := Lib.hid r1_
  have HI2 := Lib.hid r2_
  obtain ⟨m, hmd⟩ : ∃ m, madeV T0 n0 = m := ⟨_, rfl⟩
  have HMD := Lib.hid hmd
  clear hmd R0  r1_ r2_
  go_enter Try.func5, Try.ntmps5
  go_upto_region 4 with (first | (go_at_call 10; (with_reducible refine (things_any HR0.out).mono ?_); rw [HMD.out]; rintro e w1 ⟨s, r, rfl, hst⟩; have HG := Lib.hid hst; clear hst))
  obtain ⟨o, ho⟩ : ∃ o, ptrs m.L = o := ⟨_, rfl⟩
  obtain ⟨pn, hpn⟩ : ∃ pn, o.length = pn := ⟨_, rfl⟩
  have HO := Lib.hid ho
  have HPN : Hid ((ptrs m.L).length = pn) := Lib.hid (by rw [ho]; exact hpn)
  have HPNO := Lib.hid hpn
  have hpb : pn ≤ 1000000 := by rw [← hpn, ← ho]; exact Nat.le_trans (ptrs_len HG.out.goodp) (by decide)
  have HPI : Hid (∀ x, x ∈ o → InI x) := Lib.hid (by rw [← ho]; exact ptrs_in HG.out.goodp)
  clear hpn ho
  have hI1 := HI1.out
  have hI2 := HI2.out
  by_cases h1 : pn < 2
  · have d1 : decide (pn < 2) = true := decide_eq_true h1
    have d1' : decide ((pn : Int) < 2) = true := decide_eq_true (by omega)
    clear hI1 hI2
    go_wp2_with (first | (go_at_call 12; (with_reducible refine (g_robjects HG.out HPN.out).mono ?_); rw [HO.out]; rintro e w2 ⟨A9, c9, X1, hX, rfl, hL, hst, hb⟩; have HLO := Lib.hid hL; replace HG := Lib.hid hst; clear hL hst hb hX) | (go_at_call 18; (with_reducible refine (lives_any _).mono ?_); rintro e w9 ⟨rfl, hb⟩; replace HG := Lib.hid (HG.out.below hb); clear hb))
    go_ret
    exact ⟨ret_bool (by simp), HG.out.stays⟩
  have d1 : decide (pn < 2) = false := decide_eq_false h1
  have d1' : decide ((pn : Int) < 2) = false := decide_eq_false (by omega)
  by_cases h2 : a1 < 0
  · have d2 : decide (a1 < 0) = true := decide_eq_true h2
    clear hI1 hI2
    go_wp2_with (first | (go_at_call 12; (with_reducible refine (g_robjects HG.out HPN.out).mono ?_); rw [HO.out]; rintro e w2 ⟨A9, c9, X1, hX, rfl, hL, hst, hb⟩; have HLO := Lib.hid hL; replace HG := Lib.hid hst; clear hL hst hb hX) | (go_at_call 18; (with_reducible refine (lives_any _).mono ?_); rintro e w9 ⟨rfl, hb⟩; replace HG := Lib.hid (HG.out.below hb); clear hb))
    go_ret
    exact ⟨ret_bool (by simp), HG.out.stays⟩
  by_cases h3 : a2 < 0
  · have d2 : decide (a1 < 0) = false := decide_eq_false h2
    have d3 : decide (a2 < 0) = true := decide_eq_true h3
    clear hI1 hI2
    go_wp2_with (first | (go_at_call 12; (with_reducible refine (g_robjects HG.out HPN.out).mono ?_); rw [HO.out]; rintro e w2 ⟨A9, c9, X1, hX, rfl, hL, hst, hb⟩; have HLO := Lib.hid hL; replace HG := Lib.hid hst; clear hL hst hb hX) | (go_at_call 18; (with_reducible refine (lives_any _).mono ?_); rintro e w9 ⟨rfl, hb⟩; replace HG := Lib.hid (HG.out.below hb); clear hb))
    go_ret
    exact ⟨ret_bool (by simp), HG.out.stays⟩
  obtain ⟨j1, rfl⟩ : ∃ j : Nat, a1 = (j : Int) := ⟨a1.toNat, by omega⟩
  obtain ⟨j2, rfl⟩ : ∃ j : Nat, a2 = (j : Int) := ⟨a2.toNat, by omega⟩
  have d2 : decide ((j1 : Int) < 0) = false := decide_eq_false h2
  have d3 : decide ((j2 : Int) < 0) = false := decide_eq_false h3
  obtain ⟨q1, hq1⟩ : ∃ q, j1 % pn = q := ⟨_, rfl⟩
  obtain ⟨q2, hq2⟩ : ∃ q, j2 % pn = q := ⟨_, rfl⟩
  have hn1 : q1 < pn := by rw [← hq1]; exact Nat.mod_lt _ (by omega)
  have hn2 : q2 < pn := by rw [← hq2]; exact Nat.mod_lt _ (by omega)
  have hm1 : (j1 : Int).tmod (pn : Int) = (q1 : Int) := by rw [Int.tmod_eq_emod_of_nonneg (by omega), ← hq1]; simp
  have hm2 : (j2 : Int).tmod (pn : Int) = (q2 : Int) := by rw [Int.tmod_eq_emod_of_nonneg (by omega), ← hq2]; simp
  have hw1 : IntKind.i64.wrap (q1 : Int) = (q1 : Int) := by rw [IntKind.wrap_i64]; omega
  have hw2 : IntKind.i64.wrap (q2 : Int) = (q2 : Int) := by rw [IntKind.wrap_i64]; omega
  have g0 : (0 : Int) ≤ (q1 : Int) := by omega
  have g1 : (q1 : Int) < (pn : Int) := by omega
  have g2 : (0 : Int) ≤ (q2 : Int) := by omega
  have g3 : (q2 : Int) < (pn : Int) := by omega
  have nz : pn ≠ 0 := by omega
  have nz2 : ¬ ((pn : Int) = 0) := by omega
  clear hq1 hq2 h1 h2 h3 hI1 hI2
  go_upto_region 5 with (first | (go_at_call 12; (with_reducible refine (g_robjects HG.out HPN.out).mono ?_); rw [HO.out]; rintro e w2 ⟨A9, c9, X1, hX, rfl, hL, hst, hb⟩; have HLO := Lib.hid hL; replace HG := Lib.hid hst; clear hL hst hb hX))
  have hl1 : q1 < o.length := by rw [HPNO.out]; exact hn1
  have hl2 : q2 < o.length := by rw [HPNO.out]; exact hn2
  obtain ⟨g, off, hga, hgl, hc1⟩ := HLO.out.nums q1 hl1
  obtain ⟨g', off', hgb, _, hc2⟩ := HLO.out.nums q2 hl2
  subst hga
  cases hgb
  obtain ⟨x, hx⟩ : ∃ x, o[q1] = x := ⟨_, rfl⟩
  obtain ⟨y, hy⟩ : ∃ x, o[q2] = x := ⟨_, rfl⟩
  rw [hx] at hc1
  rw [hy] at hc2
  have HIx : Hid (InI x) := Lib.hid (HPI.out x (by rw [← hx]; exact List.getElem_mem _))
  have HIy : Hid (InI y) := Lib.hid (HPI.out y (by rw [← hy]; exact List.getElem_mem _))
  have vx : isV m.L x = true := mem_ptrs.1 (by rw [HO.out, ← hx]; exact List.getElem_mem _)
  have vy : isV m.L y = true := mem_ptrs.1 (by rw [HO.out, ← hy]; exact List.getElem_mem _)
  obtain ⟨t1, ht1⟩ : ∃ t, (if isV m.L x = true then (ptrs m.L).filter (ptP m x) else []) = t := ⟨_, rfl⟩
  obtain ⟨t2, ht2⟩ : ∃ t, (if isV m.L y = true then (ptrs m.L).filter (ptP m y) else []) = t := ⟨_, rfl⟩
  obtain ⟨u1, hu1⟩ : ∃ t, t1.length = t := ⟨_, rfl⟩
  obtain ⟨u2, hu2⟩ : ∃ t, t2.length = t := ⟨_, rfl⟩
  have HT1 := Lib.hid ht1
  have HT2 := Lib.hid ht2
  have HU1 : Hid ((if isV m.L x = true then (ptrs m.L).filter (ptP m x) else []).length = u1) := Lib.hid (by rw [ht1]; exact hu1)
  have HU2 : Hid ((if isV m.L y = true then (ptrs m.L).filter (ptP m y) else []).length = u2) := Lib.hid (by rw [ht2]; exact hu2)
  by_cases hxy : x = y
  · subst hxy
    have HBV : Hid (bothV m [x] [x] [] = (m, [], 1)) := Lib.hid (reach_eq m x)
    have HN0 : Hid ((bothV m [x] [x] []).2.1.length = 0) := Lib.hid (by rw [HBV.out]; rfl)
    have HBI : Hid (∀ z, z ∈ (bothV m [x] [x] []).2.1 → InI z) := Lib.hid (by rw [HBV.out]; exact nil_in)
    clear hx hy ht1 ht2 hu1 hu2 vx vy hl1 hl2 hgl
    go_wp2_with (first | (go_at_call 16; (with_reducible refine (g_pt HG.out x HU1.out).mono ?_); rw [HT1.out]; rintro e w4 ⟨ALA, cLA, XLA, hX, rfl, hL, hst, hb⟩; have HLA := Lib.hid hL;  replace HG := Lib.hid hst; clear hL hst hb hX) | (go_at_call 20; (with_reducible refine (g_swap1 HG.out x x HIx.out HIy.out HN0.out HBI.out).mono ?_); rw [HBV.out]; rintro e w6 ⟨C5, k5_, X5, hk, rfl, hst⟩;  replace HG := Lib.hid hst; clear hst hk) | (go_at_call 18; (with_reducible refine (lives_any _).mono ?_); rintro e w9 ⟨rfl, hb⟩; replace HG := Lib.hid (HG.out.below hb); clear hb))
    go_ret
    exact ⟨ret_bool (by simp), HG.out.stays⟩
  · obtain ⟨mm, hmm⟩ : ∃ mm, ({ m with L := m.L.map (turnO (sbV [x, y] [y, x])) } : Hp) = mm := ⟨_, rfl⟩
    have hbv := reach_ne vx vy hxy
    rw [hmm] at hbv
    have HBV := Lib.hid hbv
    have HN0 : Hid ((bothV m [x] [y] []).2.1.length = 0) := Lib.hid (by rw [hbv]; rfl)
    have HBI : Hid (∀ z, z ∈ (bothV m [x] [y] []).2.1 → InI z) := Lib.hid (by rw [HBV.out]; exact nil_in)
    obtain ⟨p1, p2⟩ := reach_pt vx vy hxy
    rw [hbv] at p1 p2
    have HT3 : Hid ((if isV mm.L x = true then (ptrs mm.L).filter (ptP mm x) else []) = t2) := Lib.hid (by rw [← ht2]; exact p1)
    have HT4 : Hid ((if isV mm.L y = true then (ptrs mm.L).filter (ptP mm y) else []) = t1) := Lib.hid (by rw [← ht1]; exact p2)
    have HU3 : Hid ((if isV mm.L x = true then (ptrs mm.L).filter (ptP mm x) else []).length = u2) := Lib.hid (by rw [HT3.out]; exact hu2)
    have HU4 : Hid ((if isV mm.L y = true then (ptrs mm.L).filter (ptP mm y) else []).length = u1) := Lib.hid (by rw [HT4.out]; exact hu1)
    have y0 : (x == y) = false := by simpa using hxy
    clear hx hy ht1 ht2 hu1 hu2 vx vy hl1 hl2 hgl hmm hbv p1 p2 hxy
    go_wp2_with (first | (go_at_call 16; (with_reducible refine (g_pt HG.out x HU1.out).mono ?_); rw [HT1.out]; rintro e w4 ⟨ALA, cLA, XLA, hX, rfl, hL, hst, hb⟩; have HLA := Lib.hid hL;  replace HG := Lib.hid hst; clear hL hst hb hX) | (go_at_call 16; (with_reducible refine (g_pt HG.out y HU2.out).mono ?_); rw [HT2.out]; rintro e w4 ⟨ALB, cLB, XLB, hX, rfl, hL, hst, hb⟩; have HLB := Lib.hid hL; replace HLA := Lib.hid (Lst.grow (Off.below HLA.out hb) hX); replace HG := Lib.hid hst; clear hL hst hb hX) | (go_at_call 20; (with_reducible refine (g_swap1 HG.out x y HIx.out HIy.out HN0.out HBI.out).mono ?_); rw [HBV.out]; rintro e w6 ⟨C5, k5_, X5, hk, rfl, hst⟩; replace HLA := Lib.hid (hk _ _ _ _ HLA.out); replace HLB := Lib.hid (hk _ _ _ _ HLB.out); replace HG := Lib.hid hst; clear hst hk) | (go_at_call 16; (with_reducible refine (g_pt HG.out x HU3.out).mono ?_); rw [HT3.out]; rintro e w4 ⟨ALC, cLC, XLC, hX, rfl, hL, hst, hb⟩; have HLC := Lib.hid hL; replace HLA := Lib.hid (Lst.grow (Off.below HLA.out hb) hX); replace HLB := Lib.hid (Lst.grow (Off.below HLB.out hb) hX); replace HG := Lib.hid hst; clear hL hst hb hX) | (go_at_call 16; (with_reducible refine (g_pt HG.out y HU4.out).mono ?_); rw [HT4.out]; rintro e w4 ⟨ALD, cLD, XLD, hX, rfl, hL, hst, hb⟩; have HLD := Lib.hid hL; replace HLA := Lib.hid (Lst.grow (Off.below HLA.out hb) hX); replace HLB := Lib.hid (Lst.grow (Off.below HLB.out hb) hX); replace HG := Lib.hid hst; clear hL hst hb hX) | (go_at_call_of 13 ALC; (with_reducible refine (same_lst HLC.out HLB.out).mono ?_); rintro e w8 ⟨rfl, hb⟩; replace HLA := Lib.hid (Off.below HLA.out hb); replace HLB := Lib.hid (Off.below HLB.out hb); replace HG := Lib.hid (HG.out.below hb); clear hb) | (go_at_call_of 13 ALD; (with_reducible refine (same_lst HLD.out HLA.out).mono ?_); rintro e w8 ⟨rfl, hb⟩; replace HLA := Lib.hid (Off.below HLA.out hb); replace HLB := Lib.hid (Off.below HLB.out hb); replace HG := Lib.hid (HG.out.below hb); clear hb) | (go_at_call 18; (with_reducible refine (lives_any _).mono ?_); rintro e w9 ⟨rfl, hb⟩; replace HG := Lib.hid (HG.out.below hb); clear hb))
    go_ret
    exact ⟨ret_bool (by simp), HG.out.stays⟩


/-! ### the row's step -/
set_option maxRecDepth 100000 in
theorem lifted (os : Os) (started : os.Started) (H : Type) (enc : TypeId × Value → H) :
    ReturnsInHanded {} Try.checked os 5 .any (Rows.swapReachesSpec.pre6 enc Try.prog Try.f5 Rows.swapReachesRow.domain false) (Rows.swapReachesSpec.post enc Try.prog Try.f5 false true false false) := by
  refine returnsInHanded_of_change (C := Try.checked) own started (by kernel_rfl) Try.func5
    (ChangeSpec.witness6 (enc := enc) (C := Try.checked) false ⟨#[], #[.slice none 0 0, .int .i64 0, .int .i64 0], []⟩ 8 (by kernel_rfl) (by kernel_rfl) (by kernel_rfl) (by kernel_rfl)) ?_
  intro W base args ds gs before hval0 hW hcnd _
  have hval : ∀ (j : Nat) t v, Try.f5.params[j]? = some t → args[j]? = some v → Value.okWide Try.prog W .any base t v := hval0
  have hW' := hW
  obtain ⟨p, q, hA0, hV, rfl, hfz, hnd⟩ := hW
  have hA : DataW.TrodAll enc Try.prog W 0 (fun _ => true) true Try.f5.params.toList args.toList ds p := hA0
  rw [Try.params5] at hA hval
  obtain ⟨v0, vs0, d0, ds0, p0, q0, hargs, rfl, rfl, h0, r0⟩ := trodAll_cons hA
  obtain ⟨v1, vs1, d1, ds1, p1, q1, rfl, rfl, rfl, h1, r1⟩ := trodAll_cons r0
  obtain ⟨v2, vs2, d2, ds2, p2, q2, rfl, rfl, rfl, h2, r2⟩ := trodAll_cons r1
  obtain ⟨rfl, rfl, rfl⟩ := trodAll_nil r2
  obtain rfl : args = #[v0, v1, v2] := by cases args; simp_all
  obtain ⟨rfl, rfl⟩ := trodVars_none hV
  have k0 := h0
  have lt0 : ∀ x ∈ p0, x.block < W.heap.size := by obtain ⟨m, hm⟩ := k0; exact DataW.trod_lt m _ _ _ hm
  obtain ⟨A0, n0, c0, C0, rfl, R0⟩ := open_things (hval 0 22 v0 rfl rfl) h0
  obtain ⟨a1, rfl, rfl, rfl, w1⟩ := open_int Try.underlying3 (hval 1 3 v1 rfl rfl) h1
  obtain ⟨a2, rfl, rfl, rfl, w2⟩ := open_int Try.underlying3 (hval 2 3 v2 rfl rfl) h2
  clear hA0 hval0
  refine (walk W _ _ _ _ R0 _ (bounds_i64 w1) _ (bounds_i64 w2)).mono fun e W' ⟨he, bel⟩ => ?_
  subst he
  exact ⟨_, rfl, _, _, _, [], _, [], hW', trodAll_mk1 (shut_bool Try.underlying4 _), (trodAll_cons_mk (Below.trod laidOut (by kernel_rfl) (of_decide_eq_true (by kernel_rfl)) k0 bel lt0) (trodAll_cons_mk (shut_int Try.underlying3 w1) (trodAll_cons_mk (shut_int Try.underlying3 w2) trodAll_mk0))), rfl, bel.frame _, fun h => by cases h⟩

theorem over : Rows.swapReachesRow.holds Try.pinned (OpenSpec.ofChange Rows.swapReachesSpec) :=
  OpenClaim.holds_of_wide 5 Try.f5 rfl rfl rfl rfl rfl rfl rfl ⟨rfl, rfl, rfl, rfl, rfl⟩ rfl rfl rfl rfl rfl (by kernel_rfl) Try.func5 (by kernel_rfl)
    (of_decide_eq_true (by kernel_rfl)) (by unfold Func.isWrapper; first | (rw [if_pos (by decide +kernel)]; kernel_rfl) | (rw [if_neg (by decide +kernel)]; exact ⟨rfl, rfl⟩))
    (fun os started H enc _ => lifted os started H enc)

theorem proved : Rows.SwapReachesSaid := over
end Go.Proofs.Ythonodimjglnfaa.swapReaches

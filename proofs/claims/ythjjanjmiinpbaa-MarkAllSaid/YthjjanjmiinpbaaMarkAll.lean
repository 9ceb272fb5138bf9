/- The law MarkAll of chapter 03 holds for every input: it returns true, and its arguments stay. No conditions. -/
import Derived.Test.YthjjanjmiinpbaaRows
import Derived.Test.YthjjanjmiinpbaaMJ
import Derived.Test.YthjjanjmiinpbaaMQ
import Derived.Deep.RegionHeld3
import Derived.Deep.RegionWith
import Derived.Deep.CutBlock
import Derived.WalkKit
import Derived.ProofKit
import Derived.OpenShut
import Derived.ChangeOld
import Derived.Below
namespace Go.Proofs.Ythjjanjmiinpbaa.markAll
open Go.ChangeShapes Go.WideShapes Go.ChangeAt Go.RowKit Go.Deep Go.Joins Go.Maps
set_option linter.unusedVariables false
set_option linter.unusedSimpArgs false

theorem own : ownKnob Try.prog.godebug = none := by kernel_rfl
theorem laidOut : laidOutB Try.prog = true := by kernel_rfl

set_option maxRecDepth 100000 in
set_option maxHeartbeats 40000000 in
theorem walk (w : World) (A0 : Option Addr) (n0 c0 : Nat) (T0 : Nat → ThT) (R0 : RawT w A0 n0 c0 T0) (A1 : Option Addr) (n1 c1 : Nat) (l1 : List Int) (R1 : RawN w A1 n1 c1 l1) :
    Calls Try.prog 3 #[.slice A0 n0 c0, .slice A1 n1 c1] w fun e w' => e = .returned (.bool true) ∧ Below w.heap.size w w' := by
  have HR0 := Lib.hid R0
  have HR1 := Lib.hid R1
  obtain ⟨m, hmd⟩ : ∃ m, madeV T0 n0 = m := ⟨_, rfl⟩
  have HMD := Lib.hid hmd
  clear hmd R0 R1 
  go_enter Try.func3, Try.ntmps3
  go_upto_region 4 with (first | (go_at_call 9; (with_reducible refine (things_any HR0.out).mono ?_); rw [HMD.out]; rintro e w1 ⟨s, r, rfl, hst⟩; have HG := Lib.hid hst; clear hst))
  obtain ⟨o, ho⟩ : ∃ o, ptrs m.L = o := ⟨_, rfl⟩
  obtain ⟨pn, hpn⟩ : ∃ pn, o.length = pn := ⟨_, rfl⟩
  have HO := Lib.hid ho
  have HPN : Hid ((ptrs m.L).length = pn) := Lib.hid (by rw [ho]; exact hpn)
  have HPNO := Lib.hid hpn
  have hpb : pn ≤ 1000000 := by rw [← hpn, ← ho]; exact Nat.le_trans (ptrs_len HG.out.goodp) (by decide)
  have HPI : Hid (∀ x, x ∈ o → InI x) := Lib.hid (by rw [← ho]; exact ptrs_in HG.out.goodp)
  clear hpn ho
  obtain ⟨x1, hx1⟩ : ∃ x, allV o l1 = x := ⟨_, rfl⟩
  obtain ⟨nx1, hnx1⟩ : ∃ n, x1.length = n := ⟨_, rfl⟩
  have HX1 := Lib.hid hx1
  have HNX1 : Hid ((allV o l1).length = nx1) := Lib.hid (by rw [hx1]; exact hnx1)
  have hlx1 : nx1 ≤ 10 := by rw [← hnx1, ← hx1]; exact allV_len _ _
  have HIX1 : Hid (∀ x, x ∈ x1 → InI x) := Lib.hid (by rw [← hx1]; exact allV_in HPI.out HR1.out.int)
  have HLX1 := Lib.hid hnx1
  clear hx1 hnx1
  obtain ⟨m2, ys, er, hm⟩ : ∃ m2 ys er, collectV m x1 = (m2, ys, er) := ⟨_, _, _, rfl⟩
  obtain ⟨nn, hnn⟩ : ∃ nn, ys.length = nn := ⟨_, rfl⟩
  have HMM := Lib.hid hm
  have HNN5 : Hid ((collectV m x1).2.1.length = nn) := Lib.hid (by rw [hm]; exact hnn)
  have hle : nn ≤ 10 := by
    have h3 : ys.length ≤ x1.length := by have := coll_len m x1; rw [hm] at this; exact this
    have := HLX1.out
    omega
  by_cases he : er = 0
  · subst he
    have hc := coll_of hm
    have hgood : Good m := HG.out.goodp
    have HRV6 : Hid (reachedV m2 ys = (ptrs m2.L, 0)) := Lib.hid (hc.reached hgood)
    have HM2 : Hid (collectV m2 ys = (m2, ys, 0)) := Lib.hid (hc.again hgood)
    obtain ⟨np, hnp⟩ : ∃ np, (ptrs m2.L).length = np := ⟨_, rfl⟩
    have HPO := Lib.hid hnp
    have HNN6 : Hid ((reachedV m2 ys).1.length = np) := Lib.hid (by rw [HRV6.out]; exact hnp)
    have HNN7 : Hid ((collectV m2 ys).2.1.length = nn) := Lib.hid (by rw [HM2.out]; exact hnn)
    obtain ⟨rm, hrm⟩ : ∃ rm : Int, (m2.size : Int) - (adr m2.L m2.L.length : Int) = rm := ⟨_, rfl⟩
    have HRM := Lib.hid hrm
    clear hm hnn hc hgood hnp hrm
    go_upto_region 10 with (first | (go_at_call 12; (with_reducible refine (g_robjects HG.out HPN.out).mono ?_); rw [HO.out]; rintro e w2 ⟨A9, c9, X1, hX, rfl, hL, hst, hb⟩; have HLO := Lib.hid hL; replace HG := Lib.hid hst; clear hL hst hb hX) | (go_at_call_of 11 (Value.slice A1 n1 c1); (with_reducible refine (g_roots HG.out HLO.out hpb HR1.out HNX1.out).mono ?_); rw [HX1.out]; rintro e w3 ⟨B1, k1, Y1, hX, rfl, hL, hst, hb⟩; have HL1 := Lib.hid hL; replace HLO := Lib.hid (Lst.grow (Off.below HLO.out hb) hX); replace HG := Lib.hid hst; clear hL hst hb hX) | (go_at_call 10; (with_reducible refine (g_collect HG.out HL1.out (by omega) HNN5.out).mono ?_); rw [HMM.out]; rintro e w6 ⟨C5, k5_, X5, hX, rfl, hL, hst, hk⟩; have HA5 := Lib.hid hL;  replace HG := Lib.hid hst; clear hL hst hk hX) | (go_at_call 14; (with_reducible refine (g_reached HG.out HA5.out (by omega) HNN6.out).mono ?_); rw [HRV6.out]; rintro e w6 ⟨C6, k6_, X6, hX, rfl, hL, hst, hb⟩; have HA6 := Lib.hid hL; replace HA5 := Lib.hid (Lst.grow (Off.below HA5.out hb) hX); replace HG := Lib.hid hst; clear hL hst hb hX) | (go_at_call 16; (with_reducible refine (g_pobjects HG.out HPO.out).mono ?_); rintro e w9 ⟨A8, c8, X8, hX, rfl, hL, hst, hb⟩; have HLP := Lib.hid hL; replace HA5 := Lib.hid (Lst.grow (Off.below HA5.out hb) hX); replace HA6 := Lib.hid (Lst.grow (Off.below HA6.out hb) hX); replace HG := Lib.hid hst; clear hL hst hb hX) | (go_at_call 15; (with_reducible refine (same_lst HA6.out HLP.out).mono ?_); rintro e w8 ⟨rfl, hb⟩; replace HA5 := Lib.hid (Off.below HA5.out hb); replace HG := Lib.hid (HG.out.below hb); clear hb) | (go_at_call 17; (with_reducible refine (g_room HG.out).mono ?_); rw [HRM.out]; rintro e w8 ⟨rfl, hst, hb⟩; replace HA5 := Lib.hid (Off.below HA5.out hb); replace HG := Lib.hid hst; clear hst hb))
    go_wp2_with (first | (go_at_call 10; (with_reducible refine (g_collect HG.out HA5.out (by omega) HNN7.out).mono ?_); rw [HM2.out]; rintro e w6 ⟨C7, k7_, X7, hX, rfl, hL, hst, hk⟩; have HA7 := Lib.hid hL; replace HA5 := Lib.hid (Lst.grow (Lst.keeps HA5.out hk) hX); replace HG := Lib.hid hst; clear hL hst hk hX) | (go_at_call 15; (with_reducible refine (same_lst HA5.out HA7.out).mono ?_); rintro e w8 ⟨rfl, hb⟩;  replace HG := Lib.hid (HG.out.below hb); clear hb) | (go_at_call 17; (with_reducible refine (g_room HG.out).mono ?_); rw [HRM.out]; rintro e w8 ⟨rfl, hst, hb⟩; replace HG := Lib.hid hst; clear hst hb) | (go_at_call 13; (with_reducible refine (lives_any _).mono ?_); rintro e w9 ⟨rfl, hb⟩; replace HG := Lib.hid (HG.out.below hb); clear hb))
    go_ret
    exact ⟨ret_bool (by simp), HG.out.stays⟩
  · have y0 : (er == 0) = false := by simpa using he
    clear hm hnn he
    go_wp2_with (first | (go_at_call 12; (with_reducible refine (g_robjects HG.out HPN.out).mono ?_); rw [HO.out]; rintro e w2 ⟨A9, c9, X1, hX, rfl, hL, hst, hb⟩; have HLO := Lib.hid hL; replace HG := Lib.hid hst; clear hL hst hb hX) | (go_at_call_of 11 (Value.slice A1 n1 c1); (with_reducible refine (g_roots HG.out HLO.out hpb HR1.out HNX1.out).mono ?_); rw [HX1.out]; rintro e w3 ⟨B1, k1, Y1, hX, rfl, hL, hst, hb⟩; have HL1 := Lib.hid hL; replace HLO := Lib.hid (Lst.grow (Off.below HLO.out hb) hX); replace HG := Lib.hid hst; clear hL hst hb hX) | (go_at_call 10; (with_reducible refine (g_collect HG.out HL1.out (by omega) HNN5.out).mono ?_); rw [HMM.out]; rintro e w6 ⟨C5, k5_, X5, hX, rfl, hL, hst, hk⟩; have HA5 := Lib.hid hL;  replace HG := Lib.hid hst; clear hL hst hk hX) | (go_at_call 13; (with_reducible refine (lives_any _).mono ?_); rintro e w9 ⟨rfl, hb⟩; replace HG := Lib.hid (HG.out.below hb); clear hb))
    go_ret
    exact ⟨ret_bool (by simp), HG.out.stays⟩


/-! ### the row's step -/
set_option maxRecDepth 100000 in
theorem lifted (os : Os) (started : os.Started) (H : Type) (enc : TypeId × Value → H) :
    ReturnsInHanded {} Try.checked os 3 .any (Rows.markAllSpec.pre6 enc Try.prog Try.f3 Rows.markAllRow.domain false) (Rows.markAllSpec.post enc Try.prog Try.f3 false true false false) := by
  refine returnsInHanded_of_change (C := Try.checked) own started (by kernel_rfl) Try.func3
    (ChangeSpec.witness6 (enc := enc) (C := Try.checked) false ⟨#[], #[.slice none 0 0, .slice none 0 0], []⟩ 8 (by kernel_rfl) (by kernel_rfl) (by kernel_rfl) (by kernel_rfl)) ?_
  intro W base args ds gs before hval0 hW hcnd _
  have hval : ∀ (j : Nat) t v, Try.f3.params[j]? = some t → args[j]? = some v → Value.okWide Try.prog W .any base t v := hval0
  have hW' := hW
  obtain ⟨p, q, hA0, hV, rfl, hfz, hnd⟩ := hW
  have hA : DataW.TrodAll enc Try.prog W 0 (fun _ => true) true Try.f3.params.toList args.toList ds p := hA0
  rw [Try.params3] at hA hval
  obtain ⟨v0, vs0, d0, ds0, p0, q0, hargs, rfl, rfl, h0, r0⟩ := trodAll_cons hA
  obtain ⟨v1, vs1, d1, ds1, p1, q1, rfl, rfl, rfl, h1, r1⟩ := trodAll_cons r0
  obtain ⟨rfl, rfl, rfl⟩ := trodAll_nil r1
  obtain rfl : args = #[v0, v1] := by cases args; simp_all
  obtain ⟨rfl, rfl⟩ := trodVars_none hV
  have k0 := h0
  have lt0 : ∀ x ∈ p0, x.block < W.heap.size := by obtain ⟨m, hm⟩ := k0; exact DataW.trod_lt m _ _ _ hm
  obtain ⟨A0, n0, c0, C0, rfl, R0⟩ := open_things (hval 0 22 v0 rfl rfl) h0
  have k1 := h1
  have lt1 : ∀ x ∈ p1, x.block < W.heap.size := by obtain ⟨m, hm⟩ := k1; exact DataW.trod_lt m _ _ _ hm
  obtain ⟨A1, n1, c1, C1, rfl, R1⟩ := open_nlist (hval 1 23 v1 rfl rfl) h1
  clear hA0 hval0
  refine (walk W _ _ _ _ R0 _ _ _ _ R1).mono fun e W' ⟨he, bel⟩ => ?_
  subst he
  exact ⟨_, rfl, _, _, _, [], _, [], hW', trodAll_mk1 (shut_bool Try.underlying4 _), (trodAll_cons_mk (Below.trod laidOut (by kernel_rfl) (of_decide_eq_true (by kernel_rfl)) k0 bel lt0) (trodAll_cons_mk (Below.trod laidOut (by kernel_rfl) (of_decide_eq_true (by kernel_rfl)) k1 bel lt1) trodAll_mk0)), rfl, bel.frame _, fun h => by cases h⟩

theorem over : Rows.markAllRow.holds Try.pinned (OpenSpec.ofChange Rows.markAllSpec) :=
  OpenClaim.holds_of_wide 3 Try.f3 rfl rfl rfl rfl rfl rfl rfl ⟨rfl, rfl, rfl, rfl, rfl⟩ rfl rfl rfl rfl rfl (by kernel_rfl) Try.func3 (by kernel_rfl)
    (of_decide_eq_true (by kernel_rfl)) (by unfold Func.isWrapper; first | (rw [if_pos (by decide +kernel)]; kernel_rfl) | (rw [if_neg (by decide +kernel)]; exact ⟨rfl, rfl⟩))
    (fun os started H enc _ => lifted os started H enc)

theorem proved : Rows.MarkAllSaid := over
end Go.Proofs.Ythjjanjmiinpbaa.markAll

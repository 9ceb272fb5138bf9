/- The law SwapOwns of chapter 04 holds for every input: it returns true, and its arguments stay. No conditions. -/
import Derived.Test.YthonodimjglnfaaRows
import Derived.Test.YthonodimjglnfaaSL
import Derived.Deep.RegionHeld3
import Derived.Deep.RegionWith
import Derived.Deep.CutBlock
import Derived.WalkKit
import Derived.ProofKit
import Derived.OpenShut
import Derived.ChangeOld
import Derived.Below
namespace Go.Proofs.Ythonodimjglnfaa.swapOwns
open Go.ChangeShapes Go.WideShapes Go.ChangeAt Go.RowKit Go.Deep Go.Joins Go.Maps
set_option linter.unusedVariables false
set_option linter.unusedSimpArgs false

theorem own : ownKnob Try.prog.godebug = none := by kernel_rfl
theorem laidOut : laidOutB Try.prog = true := by kernel_rfl
theorem ints_of {w : World} {base n : Nat} {v : Value} {l lo : List Int} (h : w.ownsRow base 3 1 v n (l.map (.int .i64))) (hl : l = lo) (hn : lo.length = n) : Ints w base v lo := by
  subst hl
  unfold Ints
  rw [hn]
  exact h

set_option maxRecDepth 100000 in
set_option maxHeartbeats 40000000 in
theorem walk (w : World) (A0 : Option Addr) (n0 c0 : Nat) (T0 : Nat → ThT) (R0 : RawT w A0 n0 c0 T0) (A1 : Option Addr) (n1 c1 : Nat) (l1 : List Int) (R1 : RawN w A1 n1 c1 l1) (A2 : Option Addr) (n2 c2 : Nat) (l2 : List Int) (R2 : RawN w A2 n2 c2 l2) (A3 : Option Addr) (n3 c3 : Nat) (l3 : List Int) (R3 : RawN w A3 n3 c3 l3) :
    Calls Try.prog 4 #[.slice A0 n0 c0, .slice A1 n1 c1, .slice A2 n2 c2, .slice A3 n3 c3] w fun e w' => e = .returned (.bool true) ∧ Below w.heap.size w w' := by
  have HR0 := Lib.hid R0
  have HR1 := Lib.hid R1
  have HR2 := Lib.hid R2
  have HR3 := Lib.hid R3
  obtain ⟨m, hmd⟩ : ∃ m, madeV T0 n0 = m := ⟨_, rfl⟩
  have HMD := Lib.hid hmd
  clear hmd R0 R1 R2 R3 
  go_enter Try.func4, Try.ntmps4
  go_upto_region 4 with (first | (go_at_call 10; (with_reducible refine (things_any HR0.out).mono ?_); rw [HMD.out]; rintro e w1 ⟨s, r, rfl, hst⟩; have HG := Lib.hid hst; clear hst))
  obtain ⟨o, ho⟩ : ∃ o, ptrs m.L = o := ⟨_, rfl⟩
  obtain ⟨pn, hpn⟩ : ∃ pn, o.length = pn := ⟨_, rfl⟩
  have HO := Lib.hid ho
  have HPN : Hid ((ptrs m.L).length = pn) := Lib.hid (by rw [ho]; exact hpn)
  have HPNO := Lib.hid hpn
  have hpb : pn ≤ 1000000 := by rw [← hpn, ← ho]; exact Nat.le_trans (ptrs_len HG.out.goodp) (by decide)
  have HPI : Hid (∀ x, x ∈ o → InI x) := Lib.hid (by rw [← ho]; exact ptrs_in HG.out.goodp)
  clear hpn ho
  obtain ⟨x1, hx1⟩ : ∃ x, allV o l1 = x := ⟨_, rfl⟩
  obtain ⟨nx1, hnx1⟩ : ∃ n, x1.length = n := ⟨_, rfl⟩
  have HX1 := Lib.hid hx1
  have HNX1 : Hid ((allV o l1).length = nx1) := Lib.hid (by rw [hx1]; exact hnx1)
  have hlx1 : nx1 ≤ 10 := by rw [← hnx1, ← hx1]; exact allV_len _ _
  have HIX1 : Hid (∀ x, x ∈ x1 → InI x) := Lib.hid (by rw [← hx1]; exact allV_in HPI.out HR1.out.int)
  have HLX1 := Lib.hid hnx1
  clear hx1 hnx1
  obtain ⟨x2, hx2⟩ : ∃ x, allV o l2 = x := ⟨_, rfl⟩
  obtain ⟨nx2, hnx2⟩ : ∃ n, x2.length = n := ⟨_, rfl⟩
  have HX2 := Lib.hid hx2
  have HNX2 : Hid ((allV o l2).length = nx2) := Lib.hid (by rw [hx2]; exact hnx2)
  have hlx2 : nx2 ≤ 10 := by rw [← hnx2, ← hx2]; exact allV_len _ _
  have HIX2 : Hid (∀ x, x ∈ x2 → InI x) := Lib.hid (by rw [← hx2]; exact allV_in HPI.out HR2.out.int)
  have HLX2 := Lib.hid hnx2
  clear hx2 hnx2
  obtain ⟨x3, hx3⟩ : ∃ x, allV o l3 = x := ⟨_, rfl⟩
  obtain ⟨nx3, hnx3⟩ : ∃ n, x3.length = n := ⟨_, rfl⟩
  have HX3 := Lib.hid hx3
  have HNX3 : Hid ((allV o l3).length = nx3) := Lib.hid (by rw [hx3]; exact hnx3)
  have hlx3 : nx3 ≤ 10 := by rw [← hnx3, ← hx3]; exact allV_len _ _
  have HIX3 : Hid (∀ x, x ∈ x3 → InI x) := Lib.hid (by rw [← hx3]; exact allV_in HPI.out HR3.out.int)
  have HLX3 := Lib.hid hnx3
  clear hx3 hnx3
  obtain ⟨mm, an, er, hm⟩ : ∃ mm an er, bothV m x1 x2 x3 = (mm, an, er) := ⟨_, _, _, rfl⟩
  obtain ⟨nn, hnn⟩ : ∃ nn, an.length = nn := ⟨_, rfl⟩
  have HMM := Lib.hid hm
  have HNN5 : Hid ((bothV m x1 x2 x3).2.1.length = nn) := Lib.hid (by rw [hm]; exact hnn)
  have HAN := Lib.hid hnn
  have hle : nn ≤ 10 := by
    have h3 : an.length ≤ x3.length := by have := both_len m x1 x2 x3; rw [hm] at this; exact this
    have := HLX3.out
    omega
  obtain ⟨lo, hlo⟩ : ∃ lo, (([] ++ x1) ++ x2) ++ x3 = lo := ⟨_, rfl⟩
  obtain ⟨no, hno⟩ : ∃ n, lo.length = n := ⟨_, rfl⟩
  have HLOE := Lib.hid hlo
  have HNO := Lib.hid hno
  have HNS : Hid (0 + nx1 + nx2 + nx3 = no) := Lib.hid (by
    rw [← hno, ← hlo, List.length_append, List.length_append, List.length_append, HLX1.out, HLX2.out, HLX3.out]; rfl)
  have HNOM : Hid (lo.length ≤ maxLen) := Lib.hid (by rw [hno, ← HNS.out]; unfold maxLen; omega)
  have HIO : Hid (∀ x, x ∈ lo → InI x) := Lib.hid (by
    rw [← hlo]
    intro x hx
    rcases List.mem_append.1 hx with q | q
    · rcases List.mem_append.1 q with q | q
      · rcases List.mem_append.1 q with q | q
        · cases q
        · exact HIX1.out x q
      · exact HIX2.out x q
    · exact HIX3.out x q)
  clear hm hnn hlo hno
  go_wp2_with (first | (go_at_call 12; (with_reducible refine (g_robjects HG.out HPN.out).mono ?_); rw [HO.out]; rintro e w2 ⟨A9, c9, X1, hX, rfl, hL, hst, hb⟩; have HLO := Lib.hid hL; replace HG := Lib.hid hst; clear hL hst hb hX) | (go_at_call_of 19 (Value.slice A1 n1 c1); (with_reducible refine (g_roots HG.out HLO.out hpb HR1.out HNX1.out).mono ?_); rw [HX1.out]; rintro e w3 ⟨B1, k1, Y1, hX, rfl, hL, hf, hst, hb⟩; have HL1 := Lib.hid hL; have HF1 := Lib.hid hf; replace HLO := Lib.hid (Lst.grow (Off.below HLO.out hb) hX); replace HG := Lib.hid hst; clear hL hf hst hb hX) | (go_at_call_of 19 (Value.slice A2 n2 c2); (with_reducible refine (g_roots HG.out HLO.out hpb HR2.out HNX2.out).mono ?_); rw [HX2.out]; rintro e w3 ⟨B2, k2, Y2, hX, rfl, hL, hf, hst, hb⟩; have HL2 := Lib.hid hL; have HF2 := Lib.hid hf; replace HLO := Lib.hid (Lst.grow (Off.below HLO.out hb) hX); replace HL1 := Lib.hid (Lst.grow (Off.below HL1.out hb) hX); replace HG := Lib.hid hst; clear hL hf hst hb hX) | (go_at_call_of 19 (Value.slice A3 n3 c3); (with_reducible refine (g_roots HG.out HLO.out hpb HR3.out HNX3.out).mono ?_); rw [HX3.out]; rintro e w3 ⟨B3, k3, Y3, hX, rfl, hL, hf, hst, hb⟩; have HL3 := Lib.hid hL; have HF3 := Lib.hid hf; replace HLO := Lib.hid (Lst.grow (Off.below HLO.out hb) hX); replace HL1 := Lib.hid (Lst.grow (Off.below HL1.out hb) hX); replace HL2 := Lib.hid (Lst.grow (Off.below HL2.out hb) hX); replace HG := Lib.hid hst; clear hL hf hst hb hX) | (at_builtin; refine wpList_app rfl _ _ rfl w3.heap.size _ 0 [] rfl (World.ownsRow_nil _ _ _ _) rfl HF1.out HL1.out.nums HL1.out.len (by omega) (Nat.le_refl _) ?_; intro v2 w4 hown hb; have HBW := Lib.hid hb; have HOWN := Lib.hid hown; clear hown hb) | (at_builtin; refine wpList_app rfl _ _ rfl w3.heap.size _ _ _ rfl HOWN.out rfl HF2.out (HL2.out.below HBW.out).nums HL2.out.len (by omega) HBW.out.size ?_; intro v2 w4 hown hb; replace HBW := Lib.hid (HBW.out.trans hb); replace HOWN := Lib.hid hown; clear hown hb) | (at_builtin; refine wpList_app rfl _ _ rfl w3.heap.size _ _ _ rfl HOWN.out rfl HF3.out (HL3.out.below HBW.out).nums HL3.out.len (by omega) HBW.out.size ?_; intro v2 w4 hown hb; replace HBW := Lib.hid (HBW.out.trans hb); replace HOWN := Lib.hid hown; clear hown hb; have hi := ints_of HOWN.out HLOE.out (HNO.out.trans HNS.out.symm); obtain ⟨AO, cO, hv, hL⟩ := ints_lst (X := Y3) hi HIO.out; rw [HNO.out] at hv hL; subst hv; have HLOW := Lib.hid hL; replace HL1 := Lib.hid (Lst.grow (X' := moreX Y3 w3.heap.size w4.heap.size) (Off.below HL1.out HBW.out) (fun k z => Or.inl z)); replace HL2 := Lib.hid (Lst.grow (X' := moreX Y3 w3.heap.size w4.heap.size) (Off.below HL2.out HBW.out) (fun k z => Or.inl z)); replace HL3 := Lib.hid (Lst.grow (X' := moreX Y3 w3.heap.size w4.heap.size) (Off.below HL3.out HBW.out) (fun k z => Or.inl z)); replace HG := Lib.hid (HG.out.grow HBW.out); clear hi hL HOWN HBW) | (go_at_call 20; (with_reducible refine (g_both' HG.out HL1.out HL2.out HL3.out HF1.out HF2.out HF3.out (by omega) (by omega) (by omega) HNN5.out).mono ?_); rw [HMM.out]; rintro e w6 ⟨C5, k5_, rfl, hi, hk, hst⟩; have HI5 : Hid (Ints w6 w4.heap.size (.slice C5 nn k5_) an) := Lib.hid hi; have HWS : Hid (w.heap.size ≤ w4.heap.size) := Lib.hid HG.out.stays.size; have HST := Lib.hid hst; have HKK := Lib.hid hk; clear hi hk hst))
  go_loopw [19] (fun i wr => ∃ k : Nat, k ≤ nn ∧ i = .int .i64 k ∧ ∃ l' : List Int, l'.length = nn ∧ Ints wr w4.heap.size (.slice C5 nn k5_) l' ∧ Below w4.heap.size w6 wr) (fun i _ => nn - (intOf i).toNat)
  case atStart => exact ⟨0, Nat.zero_le _, rfl, an, HAN.out, HI5.out, Below.refl _ _⟩
  case round =>
    obtain ⟨k, hk, rfl, l', hl', hi, hb⟩ := hrel
    by_cases hlt : k < nn
    · have d1 : decide (k < nn) = true := decide_eq_true hlt
      obtain ⟨g, hgC, hgb, hc, hfz⟩ := Ints.at_ hi hl' hlt
      subst hgC
      have HII := Lib.hid hi
      have HLN := Lib.hid hl'
      have HB := Lib.hid hb
      have HGB := Lib.hid hgb
      have g0 : (0 : Int) ≤ (k : Int) := by omega
      have g1 : (k : Int) < (nn : Int) := by omega
      clear hl' hi hb hgb
      go_wp2_with fail
      go_roundw
      case rel => exact ⟨k + 1, by omega, by go_num, _, by rw [List.length_set]; exact HLN.out, HII.out.set HLN.out hlt 99, HB.out.setCell HGB.out _⟩
      case measure => simp [intOf]; omega
    · have d1 : decide (k < nn) = false := decide_eq_false hlt
      have HN1 := Lib.hid (nums_two HL1.out.nums (Lst.keeps HL1.out HKK.out).nums HKK.out.size hb)
      have HN2 := Lib.hid (nums_two HL2.out.nums (Lst.keeps HL2.out HKK.out).nums HKK.out.size hb)
      have HN3 := Lib.hid (nums_two HL3.out.nums (Lst.keeps HL3.out HKK.out).nums HKK.out.size hb)
      have HN0 := Lib.hid (nums_two HLOW.out.nums (Lst.keeps HLOW.out HKK.out).nums HKK.out.size hb)
      replace HST := Lib.hid (HST.out.trans (hb.mono HWS.out))
      clear hl' hi hb HLO HG HI5
      go_wp2_with (first | (at_builtin; refine wpList_app rfl _ _ rfl wr.heap.size _ 0 [] rfl (World.ownsRow_nil _ _ _ _) rfl HF1.out HN1.out HL1.out.len (by omega) (Nat.le_refl _) ?_; intro v2 w4 hown hb; have HBW := Lib.hid hb; have HOWN := Lib.hid hown; clear hown hb) | (at_builtin; refine wpList_app rfl _ _ rfl wr.heap.size _ _ _ rfl HOWN.out rfl HF2.out (HN2.out.below HBW.out) HL2.out.len (by omega) HBW.out.size ?_; intro v2 w4 hown hb; replace HBW := Lib.hid (HBW.out.trans hb); replace HOWN := Lib.hid hown; clear hown hb) | (at_builtin; refine wpList_app rfl _ _ rfl wr.heap.size _ _ _ rfl HOWN.out rfl HF3.out (HN3.out.below HBW.out) HL3.out.len (by omega) HBW.out.size ?_; intro v2 w4 hown hb; replace HBW := Lib.hid (HBW.out.trans hb); replace HOWN := Lib.hid hown; clear hown hb; have hi := ints_of HOWN.out HLOE.out (HNO.out.trans HNS.out.symm); obtain ⟨AN, cN, hv, _, hN, _⟩ := hi.nums; rw [HNO.out] at hv; subst hv; have HNW := Lib.hid hN; have HNB := Lib.hid (HN0.out.below HBW.out); replace HST := Lib.hid (HST.out.trans (HBW.out.mono HST.out.size)); clear hi hN HOWN HBW) | (go_at_call 13; (with_reducible refine (sameN HNB.out HNW.out HNO.out HNOM.out).mono ?_); rintro e w8 ⟨rfl, hb⟩; replace HST := Lib.hid (HST.out.trans (hb.mono HST.out.size)); clear hb) | (go_at_call 18; (with_reducible refine (lives_any _).mono ?_); rintro e w9 ⟨rfl, hb⟩; replace HST := Lib.hid (HST.out.trans (hb.mono HST.out.size)); clear hb))
      go_ret
      exact ⟨ret_bool (by simp), HST.out⟩


/-! ### the row's step -/
set_option maxRecDepth 100000 in
theorem lifted (os : Os) (started : os.Started) (H : Type) (enc : TypeId × Value → H) :
    ReturnsInHanded {} Try.checked os 4 .any (Rows.swapOwnsSpec.pre6 enc Try.prog Try.f4 Rows.swapOwnsRow.domain false) (Rows.swapOwnsSpec.post enc Try.prog Try.f4 false true false false) := by
  refine returnsInHanded_of_change (C := Try.checked) own started (by kernel_rfl) Try.func4
    (ChangeSpec.witness6 (enc := enc) (C := Try.checked) false ⟨#[], #[.slice none 0 0, .slice none 0 0, .slice none 0 0, .slice none 0 0], []⟩ 8 (by kernel_rfl) (by kernel_rfl) (by kernel_rfl) (by kernel_rfl)) ?_
  intro W base args ds gs before hval0 hW hcnd _
  have hval : ∀ (j : Nat) t v, Try.f4.params[j]? = some t → args[j]? = some v → Value.okWide Try.prog W .any base t v := hval0
  have hW' := hW
  obtain ⟨p, q, hA0, hV, rfl, hfz, hnd⟩ := hW
  have hA : DataW.TrodAll enc Try.prog W 0 (fun _ => true) true Try.f4.params.toList args.toList ds p := hA0
  rw [Try.params4] at hA hval
  obtain ⟨v0, vs0, d0, ds0, p0, q0, hargs, rfl, rfl, h0, r0⟩ := trodAll_cons hA
  obtain ⟨v1, vs1, d1, ds1, p1, q1, rfl, rfl, rfl, h1, r1⟩ := trodAll_cons r0
  obtain ⟨v2, vs2, d2, ds2, p2, q2, rfl, rfl, rfl, h2, r2⟩ := trodAll_cons r1
  obtain ⟨v3, vs3, d3, ds3, p3, q3, rfl, rfl, rfl, h3, r3⟩ := trodAll_cons r2
  obtain ⟨rfl, rfl, rfl⟩ := trodAll_nil r3
  obtain rfl : args = #[v0, v1, v2, v3] := by cases args; simp_all
  obtain ⟨rfl, rfl⟩ := trodVars_none hV
  have k0 := h0
  have lt0 : ∀ x ∈ p0, x.block < W.heap.size := by obtain ⟨m, hm⟩ := k0; exact DataW.trod_lt m _ _ _ hm
  obtain ⟨A0, n0, c0, C0, rfl, R0⟩ := open_things (hval 0 22 v0 rfl rfl) h0
  have k1 := h1
  have lt1 : ∀ x ∈ p1, x.block < W.heap.size := by obtain ⟨m, hm⟩ := k1; exact DataW.trod_lt m _ _ _ hm
  obtain ⟨A1, n1, c1, C1, rfl, R1⟩ := open_nlist (hval 1 28 v1 rfl rfl) h1
  have k2 := h2
  have lt2 : ∀ x ∈ p2, x.block < W.heap.size := by obtain ⟨m, hm⟩ := k2; exact DataW.trod_lt m _ _ _ hm
  obtain ⟨A2, n2, c2, C2, rfl, R2⟩ := open_nlist (hval 2 28 v2 rfl rfl) h2
  have k3 := h3
  have lt3 : ∀ x ∈ p3, x.block < W.heap.size := by obtain ⟨m, hm⟩ := k3; exact DataW.trod_lt m _ _ _ hm
  obtain ⟨A3, n3, c3, C3, rfl, R3⟩ := open_nlist (hval 3 28 v3 rfl rfl) h3
  clear hA0 hval0
  refine (walk W _ _ _ _ R0 _ _ _ _ R1 _ _ _ _ R2 _ _ _ _ R3).mono fun e W' ⟨he, bel⟩ => ?_
  subst he
  exact ⟨_, rfl, _, _, _, [], _, [], hW', trodAll_mk1 (shut_bool Try.underlying4 _), (trodAll_cons_mk (Below.trod laidOut (by kernel_rfl) (of_decide_eq_true (by kernel_rfl)) k0 bel lt0) (trodAll_cons_mk (Below.trod laidOut (by kernel_rfl) (of_decide_eq_true (by kernel_rfl)) k1 bel lt1) (trodAll_cons_mk (Below.trod laidOut (by kernel_rfl) (of_decide_eq_true (by kernel_rfl)) k2 bel lt2) (trodAll_cons_mk (Below.trod laidOut (by kernel_rfl) (of_decide_eq_true (by kernel_rfl)) k3 bel lt3) trodAll_mk0)))), rfl, bel.frame _, fun h => by cases h⟩

theorem over : Rows.swapOwnsRow.holds Try.pinned (OpenSpec.ofChange Rows.swapOwnsSpec) :=
  OpenClaim.holds_of_wide 4 Try.f4 rfl rfl rfl rfl rfl rfl rfl ⟨rfl, rfl, rfl, rfl, rfl⟩ rfl rfl rfl rfl rfl (by kernel_rfl) Try.func4 (by kernel_rfl)
    (of_decide_eq_true (by kernel_rfl)) (by unfold Func.isWrapper; first | (rw [if_pos (by decide +kernel)]; kernel_rfl) | (rw [if_neg (by decide +kernel)]; exact ⟨rfl, rfl⟩))
    (fun os started H enc _ => lifted os started H enc)

theorem proved : Rows.SwapOwnsSaid := over
end Go.Proofs.Ythonodimjglnfaa.swapOwns

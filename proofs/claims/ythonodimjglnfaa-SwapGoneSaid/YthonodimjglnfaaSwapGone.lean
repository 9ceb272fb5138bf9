/- The law SwapGone of chapter 04 holds for every input: it returns true, and its arguments stay. No conditions. -/
import Derived.Test.YthonodimjglnfaaRows
import Derived.Test.YthonodimjglnfaaSL
import Derived.Deep.RegionHeld3
import Derived.Deep.RegionWith
import Derived.Deep.CutBlock
import Derived.WalkKit
import Derived.ProofKit
import Derived.OpenShut
import Derived.ChangeOld
import Derived.Below
namespace Go.Proofs.Ythonodimjglnfaa.swapGone
open Go.ChangeShapes Go.WideShapes Go.ChangeAt Go.RowKit Go.Deep Go.Joins Go.Maps
set_option linter.unusedVariables false
set_option linter.unusedSimpArgs false

theorem own : ownKnob Try.prog.godebug = none := by kernel_rfl
theorem laidOut : laidOutB Try.prog = true := by kernel_rfl

set_option maxRecDepth 100000 in
set_option maxHeartbeats 40000000 in
theorem walk (w : World) (A0 : Option Addr) (n0 c0 : Nat) (T0 : Nat → ThT) (R0 : RawT w A0 n0 c0 T0) (A1 : Option Addr) (n1 c1 : Nat) (l1 : List Int) (R1 : RawN w A1 n1 c1 l1) (A2 : Option Addr) (n2 c2 : Nat) (l2 : List Int) (R2 : RawN w A2 n2 c2 l2) :
    Calls Try.prog 6 #[.slice A0 n0 c0, .slice A1 n1 c1, .slice A2 n2 c2] w fun e w' => e = .returned (.bool true) ∧ Below w.heap.size w w' := by
  have HR0 := Lib.hid R0
  have HR1 := Lib.hid R1
  have HR2 := Lib.hid R2
  obtain ⟨m, hmd⟩ : ∃ m, madeV T0 n0 = m := ⟨_, rfl⟩
  have HMD := Lib.hid hmd
  clear hmd R0 R1 R2 
  go_enter Try.func6, Try.ntmps6
  go_upto_region 4 with (first | (go_at_call 10; (with_reducible refine (things_any HR0.out).mono ?_); rw [HMD.out]; rintro e w1 ⟨s, r, rfl, hst⟩; have HG := Lib.hid hst; clear hst))
  obtain ⟨o, ho⟩ : ∃ o, ptrs m.L = o := ⟨_, rfl⟩
  obtain ⟨pn, hpn⟩ : ∃ pn, o.length = pn := ⟨_, rfl⟩
  have HO := Lib.hid ho
  have HPN : Hid ((ptrs m.L).length = pn) := Lib.hid (by rw [ho]; exact hpn)
  have HPNO := Lib.hid hpn
  have hpb : pn ≤ 1000000 := by rw [← hpn, ← ho]; exact Nat.le_trans (ptrs_len HG.out.goodp) (by decide)
  have HPI : Hid (∀ x, x ∈ o → InI x) := Lib.hid (by rw [← ho]; exact ptrs_in HG.out.goodp)
  clear hpn ho
  obtain ⟨x1, hx1⟩ : ∃ x, allV o l1 = x := ⟨_, rfl⟩
  obtain ⟨nx1, hnx1⟩ : ∃ n, x1.length = n := ⟨_, rfl⟩
  have HX1 := Lib.hid hx1
  have HNX1 : Hid ((allV o l1).length = nx1) := Lib.hid (by rw [hx1]; exact hnx1)
  have hlx1 : nx1 ≤ 10 := by rw [← hnx1, ← hx1]; exact allV_len _ _
  have HIX1 : Hid (∀ x, x ∈ x1 → InI x) := Lib.hid (by rw [← hx1]; exact allV_in HPI.out HR1.out.int)
  have HLX1 := Lib.hid hnx1
  clear hx1 hnx1
  obtain ⟨x2, hx2⟩ : ∃ x, allV o l2 = x := ⟨_, rfl⟩
  obtain ⟨nx2, hnx2⟩ : ∃ n, x2.length = n := ⟨_, rfl⟩
  have HX2 := Lib.hid hx2
  have HNX2 : Hid ((allV o l2).length = nx2) := Lib.hid (by rw [hx2]; exact hnx2)
  have hlx2 : nx2 ≤ 10 := by rw [← hnx2, ← hx2]; exact allV_len _ _
  have HIX2 : Hid (∀ x, x ∈ x2 → InI x) := Lib.hid (by rw [← hx2]; exact allV_in HPI.out HR2.out.int)
  have HLX2 := Lib.hid hnx2
  clear hx2 hnx2
  obtain ⟨mm, an, er, hm⟩ : ∃ mm an er, oneV m x1 x2 [] = (mm, an, er) := ⟨_, _, _, rfl⟩
  obtain ⟨nn, hnn⟩ : ∃ nn, an.length = nn := ⟨_, rfl⟩
  have HMM := Lib.hid hm
  have HNN5 : Hid ((oneV m x1 x2 []).2.1.length = nn) := Lib.hid (by rw [hm]; exact hnn)
  by_cases he : er = 0
  · subst he
    have hz : (oneV m x1 x2 []).2.2 = 0 := by rw [hm]
    have HGN : Hid (∀ x, x ∈ x1 → (if isV mm.L x = true then (ptrs mm.L).filter (ptP mm x) else []) = []) := Lib.hid (fun x hx => by have := one_gone hz hx; rw [hm] at this; exact this)
    have HPM : Hid (ptrs mm.L = o) := Lib.hid (by have := one_ptrs hz; rw [hm, HO.out] at this; exact this)
    have HPMN : Hid ((ptrs mm.L).length = pn) := Lib.hid (by rw [HPM.out]; exact HPNO.out)
    have HLK : Hid (∀ k (hk : k < m.L.length), (lookO mm.L (ptr m.L k)).fmt = m.L[k].fmt ∧ (lookO mm.L (ptr m.L k)).hash = m.L[k].hash ∧ (lookO mm.L (ptr m.L k)).F.length = m.L[k].F.length) := Lib.hid (by have := one_look hz; rw [hm] at this; exact this)
    have HML : Hid (m.L.length = pn) := Lib.hid (by have := HPN.out; simpa [ptrs] using this)
    clear hm hnn hz
    go_wp2_with (first | (go_at_call 12; (with_reducible refine (g_robjects HG.out HPN.out).mono ?_); rw [HO.out]; rintro e w2 ⟨A9, c9, X1, hX, rfl, hL, hst, hb⟩; have HLO := Lib.hid hL; replace HG := Lib.hid hst; clear hL hst hb hX) | (go_at_call_of 19 (Value.slice A1 n1 c1); (with_reducible refine (g_roots HG.out HLO.out hpb HR1.out HNX1.out).mono ?_); rw [HX1.out]; rintro e w3 ⟨B1, k1, Y1, hX, rfl, hL, hf, hst, hb⟩; have HL1 := Lib.hid hL; have HF1 := Lib.hid hf; replace HLO := Lib.hid (Lst.grow (Off.below HLO.out hb) hX); replace HG := Lib.hid hst; clear hL hf hst hb hX) | (go_at_call_of 19 (Value.slice A2 n2 c2); (with_reducible refine (g_roots HG.out HLO.out hpb HR2.out HNX2.out).mono ?_); rw [HX2.out]; rintro e w3 ⟨B2, k2, Y2, hX, rfl, hL, hf, hst, hb⟩; have HL2 := Lib.hid hL; have HF2 := Lib.hid hf; replace HLO := Lib.hid (Lst.grow (Off.below HLO.out hb) hX); replace HL1 := Lib.hid (Lst.grow (Off.below HL1.out hb) hX); replace HG := Lib.hid hst; clear hL hf hst hb hX) | (go_at_call 21; (with_reducible refine (g_one HG.out HL1.out HL2.out nil_lst fm_nil (by omega) (by omega) (by omega) (one_in HIX2.out nil_in) HNN5.out).mono ?_); rw [HMM.out]; rintro e w6 ⟨C5, k5_, X5, hX, rfl, hL, hf, hst, hk⟩; replace HLO := Lib.hid (Lst.grow (Lst.keeps HLO.out hk) hX); replace HL1 := Lib.hid (Lst.grow (Lst.keeps HL1.out hk) hX); replace HG := Lib.hid hst; clear hL hf hst hk hX))
    go_loopw [15] (fun i wr => ∃ k : Nat, k ≤ nx1 ∧ i = .int .i64 k ∧ Below w6.heap.size w6 wr) (fun i _ => nx1 - (intOf i).toNat)
    case atStart => exact ⟨0, Nat.zero_le _, rfl, (by first | exact Below.refl _ _ | exact below_drewN (Below.refl _ _) _)⟩
    case round =>
      obtain ⟨k, hk, rfl, hb⟩ := hrel
      have HBW := Lib.hid hb
      by_cases hlt : k < nx1
      · have d1 : decide (k < nx1) = true := decide_eq_true hlt
        have hkl : k < x1.length := by rw [HLX1.out]; exact hlt
        obtain ⟨g, off, rfl, hgl, hc⟩ := (HL1.out.below hb).nums k hkl
        obtain ⟨x, hx⟩ : ∃ x, x1[k] = x := ⟨_, rfl⟩
        rw [hx] at hc
        have HN0 : Hid ((if isV mm.L x = true then (ptrs mm.L).filter (ptP mm x) else []).length = 0) := Lib.hid (by rw [HGN.out x (by rw [← hx]; exact List.getElem_mem _)]; rfl)
        have g0 : (0 : Int) ≤ (k : Int) := by omega
        have g1 : (k : Int) < (nx1 : Int) := by omega
        clear hx hgl hb
        go_wp2_with (go_at_call 16; (with_reducible refine (g_pt (HG.out.below HBW.out) x HN0.out).mono ?_); rintro e w7 ⟨C7, k7_, X7, hX, rfl, hL, hst, hb7⟩; have HB7 := Lib.hid hb7; clear hX hL hst hb7)
        go_roundw
        case rel => exact ⟨k + 1, by omega, by go_num, HBW.out.trans (HB7.out.mono HBW.out.size)⟩
        case measure => simp [intOf]; omega
      · have d1 : decide (k < nx1) = false := decide_eq_false hlt
        replace HG := Lib.hid (HG.out.below hb)
        replace HLO := Lib.hid (Off.below HLO.out hb)
        clear hb HBW HL1
        go_wp2_with (first | (go_at_call 22; (with_reducible refine (g_pobjects HG.out HPMN.out).mono ?_); rw [HPM.out]; rintro e w7 ⟨A7, c7, X7, hX, rfl, hL, hst, hb⟩; have HL7 := Lib.hid hL; replace HLO := Lib.hid (Lst.grow (Off.below HLO.out hb) hX); replace HG := Lib.hid hst; clear hL hst hb hX) | (go_at_call 13; (with_reducible refine (same_lst HLO.out HL7.out).mono ?_); rintro e w8 ⟨rfl, hb⟩; replace HL7 := Lib.hid (Off.below HL7.out hb); replace HG := Lib.hid (HG.out.below hb); clear hb))
        obtain ⟨bw, bm, R, ⟨lv, fv, hp, hq, _, _⟩, _, _⟩ := id HG.out
        have HP := Lib.hid hp
        have HQ := Lib.hid hq
        clear hp hq
        go_loopw [18] (fun i wr => ∃ k : Nat, k ≤ pn ∧ i = .int .i64 k ∧ Below w8.heap.size w8 wr) (fun i _ => pn - (intOf i).toNat)
        case atStart => exact ⟨0, Nat.zero_le _, rfl, (by first | exact Below.refl _ _ | exact below_drewN (Below.refl _ _) _)⟩
        case round =>
          obtain ⟨k2, hk2, rfl, hb2⟩ := hrel
          have HBV := Lib.hid hb2
          have HQW := Lib.hid (HQ.out.below hb2)
          have c2 := HQW.out.c2
          obtain ⟨LA, lc, hlv, hlc, hobj⟩ := HQW.out.list
          rw [hlv, HML.out] at c2
          rw [HML.out] at hlc
          by_cases hlt2 : k2 < pn
          · have d2 : decide (k2 < pn) = true := decide_eq_true hlt2
            have hkl : k2 < m.L.length := by rw [HML.out]; exact hlt2
            obtain ⟨g, rfl, e0, e1, e2, e3⟩ := hobj k2 hkl
            obtain ⟨FA, fc, hfv, hfc, hfj⟩ := HQW.out.field hkl
            obtain ⟨nf, hnf⟩ : ∃ nf, m.L[k2].F.length = nf := ⟨_, rfl⟩
            obtain ⟨y1, hy1⟩ : ∃ x, m.L[k2].fmt = x := ⟨_, rfl⟩
            obtain ⟨y2, hy2⟩ : ∃ x, m.L[k2].hash = x := ⟨_, rfl⟩
            obtain ⟨q1, q2, q3⟩ := HLK.out k2 hkl
            rw [hy1] at e1 q1
            rw [hy2] at e2 q2
            rw [hfv, hnf] at e3
            rw [hnf] at hfc q3
            obtain ⟨ag, aoff, rfl, hal, ha⟩ := (HL7.out.below hb2).nums k2 (by rw [HPNO.out]; exact hlt2)
            have hop : ∀ (h : k2 < o.length), o[k2] = ptr m.L k2 := by
              rw [← HO.out]
              intro h
              exact ptr_word hkl
            rw [hop] at ha
            obtain ⟨p, hpp⟩ : ∃ p, ptr m.L k2 = p := ⟨_, rfl⟩
            rw [hpp] at ha q1 q2 q3
            have g0 : (0 : Int) ≤ (k2 : Int) := by omega
            have g1 : (k2 : Int) < (pn : Int) := by omega
            have Q1 := Lib.hid q1
            have Q2 := Lib.hid q2
            have Q3 := Lib.hid q3
            clear hb2 hobj hlv hfv hfj hnf hy1 hy2 hpp hal hop q1 q2 q3 e0
            have HFO : Hid (∀ d, Calls Try.prog 23 #[.pointer (some ⟨s, 0, none⟩), .int .i64 p] (wr.drewN d) fun e w' => e = .returned (.int .i64 y1) ∧ ∃ n, w' = (wr.drewN d).drewN n) := Lib.hid (fun d => by rw [show y1 = (lookO mm.L p).fmt by exact Q1.out.symm]; exact format_any ((HP.out.below HBV.out).drewN d) p)
            have HHA : Hid (∀ d, Calls Try.prog 24 #[.pointer (some ⟨s, 0, none⟩), .int .i64 p] (wr.drewN d) fun e w' => e = .returned (.int .i64 y2) ∧ ∃ n, w' = (wr.drewN d).drewN n) := Lib.hid (fun d => by rw [show y2 = (lookO mm.L p).hash by exact Q2.out.symm]; exact hash_any ((HP.out.below HBV.out).drewN d) p)
            have HFI : Hid (∀ d, Calls Try.prog 25 #[.pointer (some ⟨s, 0, none⟩), .int .i64 p] (wr.drewN d) fun e w' => e = .returned (.int .i64 (nf : Int)) ∧ ∃ n, w' = (wr.drewN d).drewN n) := Lib.hid (fun d => by rw [← Q3.out]; exact fields_any ((HP.out.below HBV.out).drewN d) p)
            go_upto_region 20 with fail
            go_quiet (first | (go_at_call 23; exact Calls.quiet_of (HFO.out _)) | (go_at_call 24; exact Calls.quiet_of (HHA.out _)) | (go_at_call 25; exact Calls.quiet_of (HFI.out _)))
            go_wp2_with fail
            go_roundw
            case rel => exact ⟨k2 + 1, by omega, by go_num, by first | exact below_drewN HBV.out _ | exact HBV.out⟩
            case measure => simp [intOf]; omega
          · have d2 : decide (k2 < pn) = false := decide_eq_false hlt2
            replace HG := Lib.hid (HG.out.below hb2)
            clear hb2 hobj hlv c2 HQW HBV
            go_wp2_with (go_at_call 18; (with_reducible refine (lives_any _).mono ?_); rintro e w9 ⟨rfl, hb⟩; replace HG := Lib.hid (HG.out.below hb); clear hb)
            go_ret
            exact ⟨ret_bool (by simp), HG.out.stays⟩
  · have y0 : (er == 0) = false := by simpa using he
    clear hm hnn he
    go_wp2_with (first | (go_at_call 12; (with_reducible refine (g_robjects HG.out HPN.out).mono ?_); rw [HO.out]; rintro e w2 ⟨A9, c9, X1, hX, rfl, hL, hst, hb⟩; have HLO := Lib.hid hL; replace HG := Lib.hid hst; clear hL hst hb hX) | (go_at_call_of 19 (Value.slice A1 n1 c1); (with_reducible refine (g_roots HG.out HLO.out hpb HR1.out HNX1.out).mono ?_); rw [HX1.out]; rintro e w3 ⟨B1, k1, Y1, hX, rfl, hL, hf, hst, hb⟩; have HL1 := Lib.hid hL; have HF1 := Lib.hid hf; replace HLO := Lib.hid (Lst.grow (Off.below HLO.out hb) hX); replace HG := Lib.hid hst; clear hL hf hst hb hX) | (go_at_call_of 19 (Value.slice A2 n2 c2); (with_reducible refine (g_roots HG.out HLO.out hpb HR2.out HNX2.out).mono ?_); rw [HX2.out]; rintro e w3 ⟨B2, k2, Y2, hX, rfl, hL, hf, hst, hb⟩; have HL2 := Lib.hid hL; have HF2 := Lib.hid hf; replace HLO := Lib.hid (Lst.grow (Off.below HLO.out hb) hX); replace HL1 := Lib.hid (Lst.grow (Off.below HL1.out hb) hX); replace HG := Lib.hid hst; clear hL hf hst hb hX) | (go_at_call 21; (with_reducible refine (g_one HG.out HL1.out HL2.out nil_lst fm_nil (by omega) (by omega) (by omega) (one_in HIX2.out nil_in) HNN5.out).mono ?_); rw [HMM.out]; rintro e w6 ⟨C5, k5_, X5, hX, rfl, hL, hf, hst, hk⟩; replace HLO := Lib.hid (Lst.grow (Lst.keeps HLO.out hk) hX); replace HL1 := Lib.hid (Lst.grow (Lst.keeps HL1.out hk) hX); replace HG := Lib.hid hst; clear hL hf hst hk hX) | (go_at_call 18; (with_reducible refine (lives_any _).mono ?_); rintro e w9 ⟨rfl, hb⟩; replace HG := Lib.hid (HG.out.below hb); clear hb))
    go_ret
    exact ⟨ret_bool (by simp), HG.out.stays⟩


/-! ### the row's step -/
set_option maxRecDepth 100000 in
theorem lifted (os : Os) (started : os.Started) (H : Type) (enc : TypeId × Value → H) :
    ReturnsInHanded {} Try.checked os 6 .any (Rows.swapGoneSpec.pre6 enc Try.prog Try.f6 Rows.swapGoneRow.domain false) (Rows.swapGoneSpec.post enc Try.prog Try.f6 false true false false) := by
  refine returnsInHanded_of_change (C := Try.checked) own started (by kernel_rfl) Try.func6
    (ChangeSpec.witness6 (enc := enc) (C := Try.checked) false ⟨#[], #[.slice none 0 0, .slice none 0 0, .slice none 0 0], []⟩ 8 (by kernel_rfl) (by kernel_rfl) (by kernel_rfl) (by kernel_rfl)) ?_
  intro W base args ds gs before hval0 hW hcnd _
  have hval : ∀ (j : Nat) t v, Try.f6.params[j]? = some t → args[j]? = some v → Value.okWide Try.prog W .any base t v := hval0
  have hW' := hW
  obtain ⟨p, q, hA0, hV, rfl, hfz, hnd⟩ := hW
  have hA : DataW.TrodAll enc Try.prog W 0 (fun _ => true) true Try.f6.params.toList args.toList ds p := hA0
  rw [Try.params6] at hA hval
  obtain ⟨v0, vs0, d0, ds0, p0, q0, hargs, rfl, rfl, h0, r0⟩ := trodAll_cons hA
  obtain ⟨v1, vs1, d1, ds1, p1, q1, rfl, rfl, rfl, h1, r1⟩ := trodAll_cons r0
  obtain ⟨v2, vs2, d2, ds2, p2, q2, rfl, rfl, rfl, h2, r2⟩ := trodAll_cons r1
  obtain ⟨rfl, rfl, rfl⟩ := trodAll_nil r2
  obtain rfl : args = #[v0, v1, v2] := by cases args; simp_all
  obtain ⟨rfl, rfl⟩ := trodVars_none hV
  have k0 := h0
  have lt0 : ∀ x ∈ p0, x.block < W.heap.size := by obtain ⟨m, hm⟩ := k0; exact DataW.trod_lt m _ _ _ hm
  obtain ⟨A0, n0, c0, C0, rfl, R0⟩ := open_things (hval 0 22 v0 rfl rfl) h0
  have k1 := h1
  have lt1 : ∀ x ∈ p1, x.block < W.heap.size := by obtain ⟨m, hm⟩ := k1; exact DataW.trod_lt m _ _ _ hm
  obtain ⟨A1, n1, c1, C1, rfl, R1⟩ := open_nlist (hval 1 28 v1 rfl rfl) h1
  have k2 := h2
  have lt2 : ∀ x ∈ p2, x.block < W.heap.size := by obtain ⟨m, hm⟩ := k2; exact DataW.trod_lt m _ _ _ hm
  obtain ⟨A2, n2, c2, C2, rfl, R2⟩ := open_nlist (hval 2 28 v2 rfl rfl) h2
  clear hA0 hval0
  refine (walk W _ _ _ _ R0 _ _ _ _ R1 _ _ _ _ R2).mono fun e W' ⟨he, bel⟩ => ?_
  subst he
  exact ⟨_, rfl, _, _, _, [], _, [], hW', trodAll_mk1 (shut_bool Try.underlying4 _), (trodAll_cons_mk (Below.trod laidOut (by kernel_rfl) (of_decide_eq_true (by kernel_rfl)) k0 bel lt0) (trodAll_cons_mk (Below.trod laidOut (by kernel_rfl) (of_decide_eq_true (by kernel_rfl)) k1 bel lt1) (trodAll_cons_mk (Below.trod laidOut (by kernel_rfl) (of_decide_eq_true (by kernel_rfl)) k2 bel lt2) trodAll_mk0))), rfl, bel.frame _, fun h => by cases h⟩

theorem over : Rows.swapGoneRow.holds Try.pinned (OpenSpec.ofChange Rows.swapGoneSpec) :=
  OpenClaim.holds_of_wide 6 Try.f6 rfl rfl rfl rfl rfl rfl rfl ⟨rfl, rfl, rfl, rfl, rfl⟩ rfl rfl rfl rfl rfl (by kernel_rfl) Try.func6 (by kernel_rfl)
    (of_decide_eq_true (by kernel_rfl)) (by unfold Func.isWrapper; first | (rw [if_pos (by decide +kernel)]; kernel_rfl) | (rw [if_neg (by decide +kernel)]; exact ⟨rfl, rfl⟩))
    (fun os started H enc _ => lifted os started H enc)

theorem proved : Rows.SwapGoneSaid := over
end Go.Proofs.Ythonodimjglnfaa.swapGone

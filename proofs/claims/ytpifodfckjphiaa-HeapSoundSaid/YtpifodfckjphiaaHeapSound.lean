/- The law HeapSound of chapter 02 holds for every input: it returns true, and its arguments stay. No conditions. -/
import Derived.Test.YtpifodfckjphiaaRows
import Derived.Test.YtpifodfckjphiaaLY
import Derived.Test.YtpifodfckjphiaaLW2
import Derived.Deep.RegionHeld3
import Derived.Deep.RegionWith
import Derived.StillTailTactics
import Derived.Deep.CutBlock
import Derived.WalkKit
import Derived.ProofKit
import Derived.OpenShut
import Derived.ChangeOld
import Derived.Below
namespace Go.Proofs.Ytpifodfckjphiaa.heapSound
open Go.ChangeShapes Go.WideShapes Go.ChangeAt Go.RowKit Go.Deep Go.Joins Go.Maps
set_option linter.unusedVariables false
set_option linter.unusedSimpArgs false

theorem own : ownKnob Try.prog.godebug = none := by kernel_rfl
theorem laidOut : laidOutB Try.prog = true := by kernel_rfl

set_option maxRecDepth 100000 in
set_option maxHeartbeats 40000000 in
theorem walk (w : World) (A0 : Option Addr) (n0 c0 : Nat) (T0 : Nat → DeedT) (R0 : RawD w A0 n0 c0 T0) :
    Calls Try.prog 4 #[.slice A0 n0 c0] w fun e w' => e = .returned (.bool true) ∧ Below w.heap.size w w' := by
  have HR := Lib.hid R0
  have hcap : n0 ≤ 9223372036854775807 := Nat.le_trans R0.le R0.cap
  clear R0
  obtain ⟨q, hq⟩ : ∃ q, min n0 50 = q := ⟨_, rfl⟩
  have hq50 : q ≤ 50 := by omega
  have hqn : q ≤ n0 := by omega
  have HQ := Lib.hid hq
  clear hq
  go_enter Try.func4, Try.ntmps4
  go_upto_block 0 with (first | (go_at_call 10; (with_reducible refine (pnew_any _ 400 (inI_of (by decide) (by decide))).mono ?_); rintro e w1 ⟨h, B1⟩; rw [if_pos (show okN 400 = true from rfl)] at h; obtain ⟨s, bw, bm, rfl, qs, P1⟩ := h; have HP1 := Lib.hid P1; have HQ1 := Lib.hid qs; have HB1 := Lib.hid B1; clear P1 qs B1) | (go_at_call 11; (with_reducible refine (new_r (inI_of (by decide) (by decide)) (show okN 400 = true from rfl) HP1.out HQ1.out HB1.out).mono ?_); rintro e w2 ⟨r, rfl, hst⟩; have HS := Lib.hid hst; clear hst))
  go_wp2_with fail
  go_loopw [5] (fun i wr => ∃ k : Nat, k ≤ q ∧ i = .int .i64 k ∧ ∃ m, m.size = 400 ∧ LSt w wr s r m) (fun i _ => q - (intOf i).toNat)
  case atStart => exact ⟨0, Nat.zero_le _, rfl, _, by rfl, HS.out⟩
  case round =>
    obtain ⟨k, hk, rfl, m0, hsz0, hst⟩ := hrel
    replace HS := Lib.hid hst
    clear hst
    by_cases hlt : k < q
    · have d1 : decide (k < n0) = true := decide_eq_true (by omega)
      have d2 : decide (k < 50) = true := decide_eq_true (by omega)
      have d3 : decide ((k : Int) < 50) = true := decide_eq_true (by omega)
      have hkn : k < n0 := by omega
      obtain ⟨g, off, rfl, hgl, e0, e1, e2, e3, e4, e5, e6⟩ := (HR.out.below HS.out.stays).at_ k hkn
      obtain ⟨t, ht⟩ : ∃ t, T0 k = t := ⟨_, rfl⟩
      have HD := Lib.hid (HR.out.each k hkn)
      rw [ht] at e0 e1 e2 e3 e4 e5 e6 HD
      clear ht hgl
      have g0 : (0 : Int) ≤ (k : Int) := by omega
      have g1 : (k : Int) < (n0 : Int) := by omega
      obtain ⟨m, hm⟩ : ∃ m, stepV m0 t.k0 t.k1 t.k2 t.k3 t.la t.lb = m := ⟨_, rfl⟩
      have HSZ : Hid (m.size = 400) := Lib.hid (by rw [← hm, step_size]; exact hsz0)
      have HM := Lib.hid hm
      clear hm hsz0
      go_upto_region 10 with (first | (go_at_call 12; (with_reducible refine (does_law HS.out HD.out).mono ?_); rw [HM.out]; rintro e w3 ⟨rfl, hst⟩; replace HS := Lib.hid hst; clear hst))
      have HG := Lib.hid HS.out.lg
      have HSO := Lib.hid HS.out.sound
      have HGD := Lib.hid HS.out.good
      have HGE := Lib.hid HS.out.ge
      obtain ⟨pn, hpn⟩ : ∃ pn, (ptrs m.L).length = pn := ⟨_, rfl⟩
      have HPN := Lib.hid hpn
      have HLN : Hid (m.L.length = pn) := Lib.hid (by rw [← hpn]; simp [ptrs])
      have hpc : pn ≤ 131072 := by rw [← HLN.out]; exact len_bd HGD.out
      clear hpn e0 e1 e2 e3 e4 e5 e6 HS
      go_upto_region 11 with (first | (go_at_call 23; (with_reducible refine (g_objects HG.out HPN.out).mono ?_); rintro e w4 ⟨A4, c4, rfl, hv4, hn4, hb4, hst⟩; have HNA := Lib.hid hn4; have HIA := Lib.hid hv4; replace HG := Lib.hid hst; clear hst hv4 hn4 hb4))
      have HNW := Lib.hid HNA.out
      go_wp2_with fail
      go_loopw [6, 8] (fun a i wx => ∃ j : Nat, j ≤ pn ∧ i = .int .i64 j ∧ a = .int .i64 (ptr m.L j) ∧ wx.heap = w4.heap ∧ LG (fun k => k < w.heap.size) w wx s r m m) (fun _ i _ => pn - (intOf i).toNat)
      case atStart => exact ⟨0, Nat.zero_le _, rfl, (by unfold ptr; rw [adr_zero]; rfl), rfl, HG.out⟩
      case round =>
        obtain ⟨j, hj, rfl, rfl, hh, hst⟩ := hrel
        replace HG := Lib.hid hst
        obtain ⟨p, hp⟩ : ∃ p, ptr m.L j = p := ⟨_, rfl⟩
        have HP := Lib.hid hp
        have hpb := ptr_bd HGD.out j
        rw [hp] at hpb ⊢
        have HH := Lib.hid hh
        clear hst hp hh
        by_cases hjt : j < pn
        · have d4 : decide (j < pn) = true := decide_eq_true hjt
          have HJL : Hid (j < m.L.length) := Lib.hid (by rw [HLN.out]; exact hjt)
          obtain ⟨ag, aoff, rfl, _, ca⟩ := HNW.out j (by rw [HPN.out]; exact hjt)
          rw [ptr_word HJL.out, HP.out] at ca
          have ca1 := (heap_cell HH.out _).trans ca
          obtain ⟨o, ho⟩ : ∃ o, m.L[j]'HJL.out = o := ⟨_, rfl⟩
          have HO : Hid (m.L[j]'HJL.out = o) := Lib.hid ho
          have HOM : Hid (o ∈ m.L) := Lib.hid (by rw [← ho]; exact List.getElem_mem _)
          have HLO : Hid (lookO m.L p = o) := Lib.hid (by rw [← HP.out, look_at HJL.out, ho])
          have HIV : Hid (isV m.L p = true) := Lib.hid (isV_iff.2 ⟨j, HJL.out, HP.out⟩)
          obtain ⟨cl, hcl⟩ : ∃ c, o.cls = c := ⟨_, rfl⟩
          obtain ⟨fm, hfm⟩ : ∃ c, o.fmt = c := ⟨_, rfl⟩
          obtain ⟨nf, hnf⟩ : ∃ c, o.F.length = c := ⟨_, rfl⟩
          have HCL : Hid ((lookO m.L p).cls = cl) := Lib.hid (by rw [HLO.out, hcl])
          have HFM : Hid ((lookO m.L p).fmt = fm) := Lib.hid (by rw [HLO.out, hfm])
          have HNF : Hid (((lookO m.L p).F.length : Int) = (nf : Int)) := Lib.hid (by rw [HLO.out, hnf])
          have hfl : nf ≤ 256 := by rw [← hnf]; exact HGD.out.len _ HOM.out
          have HPS : Hid (ptr m.L (j + 1) = p + 2 * (3 + (nf : Int))) := Lib.hid (by rw [ptr_succ m.L j HJL.out, HP.out, ho, hnf])
          have HC0 : Hid (cl = 0 ∨ isV m.L cl = true) := Lib.hid (by rw [← hcl]; exact HSO.out.cls _ HOM.out)
          have HF0 : Hid (fm = 0 → ∀ x, x ∈ o.F → mayV m.L x = true) := Lib.hid (by rw [← hfm]; exact HSO.out.words _ HOM.out)
          have HF2 : Hid (fm = 2 → ∀ x, x ∈ o.F → 0 ≤ x ∧ x ≤ 255) := Lib.hid (by rw [← hfm]; exact HSO.out.bytes _ HOM.out)
          have HNO : Hid (o.F.length = nf) := Lib.hid hnf
          have g0 : (0 : Int) ≤ (j : Int) := by omega
          have g1 : (j : Int) < (pn : Int) := by omega
          clear ho hcl hfm hnf ca
          by_cases hc : cl = 0
          · subst hc
            go_wp2_with (first | (go_at_call_of 14 (Value.int .i64 p); (with_reducible refine (g_is HG.out p).mono ?_); rw [HIV.out]; rintro e w6 ⟨rfl, hst, hh⟩; replace HG := Lib.hid hst; replace HH := Lib.hid (hh.trans HH.out); have ca1 := (heap_cell hh _).trans ca1; clear hst hh) | (go_at_call_of 18 (Value.int .i64 p); (with_reducible refine (g_class HG.out p).mono ?_); rw [HCL.out]; rintro e w6 ⟨rfl, hst, hh⟩; replace HG := Lib.hid hst; replace HH := Lib.hid (hh.trans HH.out); have ca1 := (heap_cell hh _).trans ca1; clear hst hh))
            go_loopw [9] (fun i wy => ∃ e : Nat, e ≤ nf ∧ i = .int .i64 e ∧ wy.heap = w4.heap ∧ LG (fun k => k < w.heap.size) w wy s r m m) (fun i _ => nf - (intOf i).toNat)
            case atStart => exact ⟨0, Nat.zero_le _, rfl, HH.out, HG.out⟩
            case round =>
              obtain ⟨e, he, rfl, hh, hst⟩ := hrel
              replace HG := Lib.hid hst
              replace HH := Lib.hid hh
              clear hst hh
              by_cases het : e < nf
              · have d5 : decide (e < nf) = true := decide_eq_true het
                have d6 : decide ((e : Int) < (nf : Int)) = true := decide_eq_true (by omega)
                obtain ⟨x, hx⟩ : ∃ x, o.F.getD e 0 = x := ⟨_, rfl⟩
                have HXM : Hid (x ∈ o.F) := Lib.hid (by rw [← hx, List.getD_eq_getElem?_getD, List.getElem?_eq_getElem (by rw [HNO.out]; exact het)]; exact List.getElem_mem _)
                have HGT : Hid (getV m.L p (e : Int) = (x, 0)) := Lib.hid (by rw [← HP.out, getV_at HJL.out (by rw [HO.out, HNO.out]; exact het), HO.out, hx])
                have HEI : Hid (InI (e : Int)) := Lib.hid (inI_of (by omega) (by omega))
                clear hx
                by_cases c0 : fm = 0
                · have y0 : (fm == 0) = true := by simpa using c0
                  have y2 : (fm == 2) = false := by rw [c0]; rfl
                  have HMY : Hid (mayV m.L x = true) := Lib.hid (HF0.out c0 x HXM.out)
                  clear c0
                  go_wp2_with (first | (go_at_call_of 21 (Value.int .i64 p); (with_reducible refine (g_fields HG.out p).mono ?_); rw [HNF.out]; rintro e w6 ⟨rfl, hst, hh⟩; replace HG := Lib.hid hst; replace HH := Lib.hid (hh.trans HH.out); clear hst hh) | (go_at_call 24; (with_reducible refine (g_get HG.out p (e : Int) HEI.out).mono ?_); rw [HGT.out]; rintro e_ w6 ⟨rfl, hst, hh⟩; replace HG := Lib.hid hst; replace HH := Lib.hid (hh.trans HH.out); clear hst hh) | (go_at_call_of 19 (Value.int .i64 p); (with_reducible refine (g_format HG.out p).mono ?_); rw [HFM.out]; rintro e w6 ⟨rfl, hst, hh⟩; replace HG := Lib.hid hst; replace HH := Lib.hid (hh.trans HH.out); clear hst hh) | (go_at_call_of 16 (Value.int .i64 x); (with_reducible refine (g_may HG.out x).mono ?_); rw [HMY.out]; rintro e w6 ⟨rfl, hst, hh⟩; replace HG := Lib.hid hst; replace HH := Lib.hid (hh.trans HH.out); clear hst hh))
                  go_roundw
                  case rel => exact ⟨e + 1, by omega, by go_num, HH.out, HG.out⟩
                  case measure => simp [intOf]; omega
                · have y0 : (fm == 0) = false := by simpa using c0
                  by_cases c2 : fm = 2
                  · have y2 : (fm == 2) = true := by simpa using c2
                    have hx2 := HF2.out c2 x HXM.out
                    have d7 : decide (x < 0) = false := decide_eq_false (by omega)
                    have d8 : decide (255 < x) = false := decide_eq_false (by omega)
                    clear c0 c2 hx2
                    go_wp2_with (first | (go_at_call_of 21 (Value.int .i64 p); (with_reducible refine (g_fields HG.out p).mono ?_); rw [HNF.out]; rintro e w6 ⟨rfl, hst, hh⟩; replace HG := Lib.hid hst; replace HH := Lib.hid (hh.trans HH.out); clear hst hh) | (go_at_call 24; (with_reducible refine (g_get HG.out p (e : Int) HEI.out).mono ?_); rw [HGT.out]; rintro e_ w6 ⟨rfl, hst, hh⟩; replace HG := Lib.hid hst; replace HH := Lib.hid (hh.trans HH.out); clear hst hh) | (go_at_call_of 19 (Value.int .i64 p); (with_reducible refine (g_format HG.out p).mono ?_); rw [HFM.out]; rintro e w6 ⟨rfl, hst, hh⟩; replace HG := Lib.hid hst; replace HH := Lib.hid (hh.trans HH.out); clear hst hh) | (go_at_call_of 16 (Value.int .i64 x); (with_reducible refine (g_may HG.out x).mono ?_); rw [HMY.out]; rintro e w6 ⟨rfl, hst, hh⟩; replace HG := Lib.hid hst; replace HH := Lib.hid (hh.trans HH.out); clear hst hh))
                    go_roundw
                    case rel => exact ⟨e + 1, by omega, by go_num, HH.out, HG.out⟩
                    case measure => simp [intOf]; omega
                  · have y2 : (fm == 2) = false := by simpa using c2
                    clear c0 c2
                    go_wp2_with (first | (go_at_call_of 21 (Value.int .i64 p); (with_reducible refine (g_fields HG.out p).mono ?_); rw [HNF.out]; rintro e w6 ⟨rfl, hst, hh⟩; replace HG := Lib.hid hst; replace HH := Lib.hid (hh.trans HH.out); clear hst hh) | (go_at_call 24; (with_reducible refine (g_get HG.out p (e : Int) HEI.out).mono ?_); rw [HGT.out]; rintro e_ w6 ⟨rfl, hst, hh⟩; replace HG := Lib.hid hst; replace HH := Lib.hid (hh.trans HH.out); clear hst hh) | (go_at_call_of 19 (Value.int .i64 p); (with_reducible refine (g_format HG.out p).mono ?_); rw [HFM.out]; rintro e w6 ⟨rfl, hst, hh⟩; replace HG := Lib.hid hst; replace HH := Lib.hid (hh.trans HH.out); clear hst hh) | (go_at_call_of 16 (Value.int .i64 x); (with_reducible refine (g_may HG.out x).mono ?_); rw [HMY.out]; rintro e w6 ⟨rfl, hst, hh⟩; replace HG := Lib.hid hst; replace HH := Lib.hid (hh.trans HH.out); clear hst hh))
                    go_roundw
                    case rel => exact ⟨e + 1, by omega, by go_num, HH.out, HG.out⟩
                    case measure => simp [intOf]; omega
              · have hee : e = nf := by omega
                have d5 : decide (e < nf) = false := decide_eq_false het
                have d6 : decide ((e : Int) < (nf : Int)) = false := decide_eq_false (by omega)
                clear het
                subst hee
                go_wp2_with (first | (go_at_call_of 21 (Value.int .i64 p); (with_reducible refine (g_fields HG.out p).mono ?_); rw [HNF.out]; rintro e w6 ⟨rfl, hst, hh⟩; replace HG := Lib.hid hst; replace HH := Lib.hid (hh.trans HH.out); clear hst hh))
                go_roundw
                case rel => exact ⟨j + 1, by omega, by go_num, by rw [HPS.out], HH.out, HG.out⟩
                case measure => simp [intOf]; omega
          · have y1 : (cl == 0) = false := by simpa using hc
            have y2 : (cl != 0) = true := by simpa using hc
            have HIC : Hid (isV m.L cl = true) := Lib.hid (HC0.out.resolve_left hc)
            go_wp2_with (first | (go_at_call_of 14 (Value.int .i64 p); (with_reducible refine (g_is HG.out p).mono ?_); rw [HIV.out]; rintro e w6 ⟨rfl, hst, hh⟩; replace HG := Lib.hid hst; replace HH := Lib.hid (hh.trans HH.out); have ca1 := (heap_cell hh _).trans ca1; clear hst hh) | (go_at_call_of 18 (Value.int .i64 p); (with_reducible refine (g_class HG.out p).mono ?_); rw [HCL.out]; rintro e w6 ⟨rfl, hst, hh⟩; replace HG := Lib.hid hst; replace HH := Lib.hid (hh.trans HH.out); have ca1 := (heap_cell hh _).trans ca1; clear hst hh) | (go_at_call_of 14 (Value.int .i64 cl); (with_reducible refine (g_is HG.out cl).mono ?_); rw [HIC.out]; rintro e w6 ⟨rfl, hst, hh⟩; replace HG := Lib.hid hst; replace HH := Lib.hid (hh.trans HH.out); have ca1 := (heap_cell hh _).trans ca1; clear hst hh))
            go_loopw [9] (fun i wy => ∃ e : Nat, e ≤ nf ∧ i = .int .i64 e ∧ wy.heap = w4.heap ∧ LG (fun k => k < w.heap.size) w wy s r m m) (fun i _ => nf - (intOf i).toNat)
            case atStart => exact ⟨0, Nat.zero_le _, rfl, HH.out, HG.out⟩
            case round =>
              obtain ⟨e, he, rfl, hh, hst⟩ := hrel
              replace HG := Lib.hid hst
              replace HH := Lib.hid hh
              clear hst hh
              by_cases het : e < nf
              · have d5 : decide (e < nf) = true := decide_eq_true het
                have d6 : decide ((e : Int) < (nf : Int)) = true := decide_eq_true (by omega)
                obtain ⟨x, hx⟩ : ∃ x, o.F.getD e 0 = x := ⟨_, rfl⟩
                have HXM : Hid (x ∈ o.F) := Lib.hid (by rw [← hx, List.getD_eq_getElem?_getD, List.getElem?_eq_getElem (by rw [HNO.out]; exact het)]; exact List.getElem_mem _)
                have HGT : Hid (getV m.L p (e : Int) = (x, 0)) := Lib.hid (by rw [← HP.out, getV_at HJL.out (by rw [HO.out, HNO.out]; exact het), HO.out, hx])
                have HEI : Hid (InI (e : Int)) := Lib.hid (inI_of (by omega) (by omega))
                clear hx
                by_cases c0 : fm = 0
                · have y0 : (fm == 0) = true := by simpa using c0
                  have y2 : (fm == 2) = false := by rw [c0]; rfl
                  have HMY : Hid (mayV m.L x = true) := Lib.hid (HF0.out c0 x HXM.out)
                  clear c0
                  go_wp2_with (first | (go_at_call_of 21 (Value.int .i64 p); (with_reducible refine (g_fields HG.out p).mono ?_); rw [HNF.out]; rintro e w6 ⟨rfl, hst, hh⟩; replace HG := Lib.hid hst; replace HH := Lib.hid (hh.trans HH.out); clear hst hh) | (go_at_call 24; (with_reducible refine (g_get HG.out p (e : Int) HEI.out).mono ?_); rw [HGT.out]; rintro e_ w6 ⟨rfl, hst, hh⟩; replace HG := Lib.hid hst; replace HH := Lib.hid (hh.trans HH.out); clear hst hh) | (go_at_call_of 19 (Value.int .i64 p); (with_reducible refine (g_format HG.out p).mono ?_); rw [HFM.out]; rintro e w6 ⟨rfl, hst, hh⟩; replace HG := Lib.hid hst; replace HH := Lib.hid (hh.trans HH.out); clear hst hh) | (go_at_call_of 16 (Value.int .i64 x); (with_reducible refine (g_may HG.out x).mono ?_); rw [HMY.out]; rintro e w6 ⟨rfl, hst, hh⟩; replace HG := Lib.hid hst; replace HH := Lib.hid (hh.trans HH.out); clear hst hh))
                  go_roundw
                  case rel => exact ⟨e + 1, by omega, by go_num, HH.out, HG.out⟩
                  case measure => simp [intOf]; omega
                · have y0 : (fm == 0) = false := by simpa using c0
                  by_cases c2 : fm = 2
                  · have y2 : (fm == 2) = true := by simpa using c2
                    have hx2 := HF2.out c2 x HXM.out
                    have d7 : decide (x < 0) = false := decide_eq_false (by omega)
                    have d8 : decide (255 < x) = false := decide_eq_false (by omega)
                    clear c0 c2 hx2
                    go_wp2_with (first | (go_at_call_of 21 (Value.int .i64 p); (with_reducible refine (g_fields HG.out p).mono ?_); rw [HNF.out]; rintro e w6 ⟨rfl, hst, hh⟩; replace HG := Lib.hid hst; replace HH := Lib.hid (hh.trans HH.out); clear hst hh) | (go_at_call 24; (with_reducible refine (g_get HG.out p (e : Int) HEI.out).mono ?_); rw [HGT.out]; rintro e_ w6 ⟨rfl, hst, hh⟩; replace HG := Lib.hid hst; replace HH := Lib.hid (hh.trans HH.out); clear hst hh) | (go_at_call_of 19 (Value.int .i64 p); (with_reducible refine (g_format HG.out p).mono ?_); rw [HFM.out]; rintro e w6 ⟨rfl, hst, hh⟩; replace HG := Lib.hid hst; replace HH := Lib.hid (hh.trans HH.out); clear hst hh) | (go_at_call_of 16 (Value.int .i64 x); (with_reducible refine (g_may HG.out x).mono ?_); rw [HMY.out]; rintro e w6 ⟨rfl, hst, hh⟩; replace HG := Lib.hid hst; replace HH := Lib.hid (hh.trans HH.out); clear hst hh))
                    go_roundw
                    case rel => exact ⟨e + 1, by omega, by go_num, HH.out, HG.out⟩
                    case measure => simp [intOf]; omega
                  · have y2 : (fm == 2) = false := by simpa using c2
                    clear c0 c2
                    go_wp2_with (first | (go_at_call_of 21 (Value.int .i64 p); (with_reducible refine (g_fields HG.out p).mono ?_); rw [HNF.out]; rintro e w6 ⟨rfl, hst, hh⟩; replace HG := Lib.hid hst; replace HH := Lib.hid (hh.trans HH.out); clear hst hh) | (go_at_call 24; (with_reducible refine (g_get HG.out p (e : Int) HEI.out).mono ?_); rw [HGT.out]; rintro e_ w6 ⟨rfl, hst, hh⟩; replace HG := Lib.hid hst; replace HH := Lib.hid (hh.trans HH.out); clear hst hh) | (go_at_call_of 19 (Value.int .i64 p); (with_reducible refine (g_format HG.out p).mono ?_); rw [HFM.out]; rintro e w6 ⟨rfl, hst, hh⟩; replace HG := Lib.hid hst; replace HH := Lib.hid (hh.trans HH.out); clear hst hh) | (go_at_call_of 16 (Value.int .i64 x); (with_reducible refine (g_may HG.out x).mono ?_); rw [HMY.out]; rintro e w6 ⟨rfl, hst, hh⟩; replace HG := Lib.hid hst; replace HH := Lib.hid (hh.trans HH.out); clear hst hh))
                    go_roundw
                    case rel => exact ⟨e + 1, by omega, by go_num, HH.out, HG.out⟩
                    case measure => simp [intOf]; omega
              · have hee : e = nf := by omega
                have d5 : decide (e < nf) = false := decide_eq_false het
                have d6 : decide ((e : Int) < (nf : Int)) = false := decide_eq_false (by omega)
                clear het
                subst hee
                go_wp2_with (first | (go_at_call_of 21 (Value.int .i64 p); (with_reducible refine (g_fields HG.out p).mono ?_); rw [HNF.out]; rintro e w6 ⟨rfl, hst, hh⟩; replace HG := Lib.hid hst; replace HH := Lib.hid (hh.trans HH.out); clear hst hh))
                go_roundw
                case rel => exact ⟨j + 1, by omega, by go_num, by rw [HPS.out], HH.out, HG.out⟩
                case measure => simp [intOf]; omega
        · have hjn : j = pn := by omega
          have d4 : decide (j < pn) = false := decide_eq_false hjt
          obtain ⟨ad, had⟩ : ∃ ad, adr m.L pn = ad := ⟨_, rfl⟩
          have hpa : p = 2 * (ad : Int) := by rw [← HP.out, hjn, ← had]; rfl
          have HRM : Hid ((m.size : Int) - (adr m.L m.L.length : Int) = 400 - (ad : Int)) := Lib.hid (by rw [HSZ.out, HLN.out, had]; rfl)
          have hq1 : (2 * (ad : Int)).tdiv 2 = (ad : Int) := by rw [Int.tdiv_eq_ediv_of_nonneg (by omega)]; omega
          have hq2 : (2 * (ad : Int)) / 2 = (ad : Int) := by omega
          have hw2 : IntKind.i64.wrap (ad : Int) = (ad : Int) := by rw [IntKind.wrap_i64]; omega
          have hwr : IntKind.i64.wrap (400 - (ad : Int)) = 400 - (ad : Int) := by rw [IntKind.wrap_i64]; omega
          clear hjt hjn had
          subst hpa
          go_wp2_with (go_at_call 25; (with_reducible refine (g_room HG.out).mono ?_); rw [HRM.out]; rintro e w6 ⟨rfl, hst, hh⟩; replace HG := Lib.hid hst; clear hst hh)
          go_roundw
          case rel => exact ⟨k + 1, by omega, by go_num, m, HSZ.out, HG.out.st HSO.out HGE.out⟩
          case measure => simp [intOf]; omega
    · have hkn : k = q := by omega
      rcases Nat.lt_or_ge k n0 with z | z
      · have d1 : decide (k < n0) = true := decide_eq_true z
        have hk50 : k = 50 := by have := HQ.out; omega
        have d2 : decide (k < 50) = false := decide_eq_false (by omega)
        have d3 : decide ((k : Int) < 50) = false := decide_eq_false (by omega)
        clear hlt hk50 hkn
        go_wp2_with (go_at_call 22; (with_reducible refine (lives_any _).mono ?_); rintro e w5 ⟨rfl, hb5⟩)
        go_ret
        exact ⟨rfl, HS.out.stays.trans (hb5.mono HS.out.stays.size)⟩
      · have d1 : decide (k < n0) = false := decide_eq_false (by omega)
        clear hlt hkn
        go_wp2_with (go_at_call 22; (with_reducible refine (lives_any _).mono ?_); rintro e w5 ⟨rfl, hb5⟩)
        go_ret
        exact ⟨rfl, HS.out.stays.trans (hb5.mono HS.out.stays.size)⟩


/-! ### the row's step -/
set_option maxRecDepth 100000 in
theorem lifted (os : Os) (started : os.Started) (H : Type) (enc : TypeId × Value → H) :
    ReturnsInHanded {} Try.checked os 4 .any (Rows.heapSoundSpec.pre6 enc Try.prog Try.f4 Rows.heapSoundRow.domain false) (Rows.heapSoundSpec.post enc Try.prog Try.f4 false true false false) := by
  refine returnsInHanded_of_change (C := Try.checked) own started (by kernel_rfl) Try.func4
    (ChangeSpec.witness6 (enc := enc) (C := Try.checked) false ⟨#[], #[.slice none 0 0], []⟩ 8 (by kernel_rfl) (by kernel_rfl) (by kernel_rfl) (by kernel_rfl)) ?_
  intro W base args ds gs before hval0 hW hcnd _
  have hval : ∀ (j : Nat) t v, Try.f4.params[j]? = some t → args[j]? = some v → Value.okWide Try.prog W .any base t v := hval0
  have hW' := hW
  obtain ⟨p, q, hA0, hV, rfl, hfz, hnd⟩ := hW
  have hA : DataW.TrodAll enc Try.prog W 0 (fun _ => true) true Try.f4.params.toList args.toList ds p := hA0
  rw [Try.params4] at hA hval
  obtain ⟨v0, vs0, d0, ds0, p0, q0, hargs, rfl, rfl, h0, r0⟩ := trodAll_cons hA
  obtain ⟨rfl, rfl, rfl⟩ := trodAll_nil r0
  obtain rfl : args = #[v0] := by cases args; simp_all
  obtain ⟨rfl, rfl⟩ := trodVars_none hV
  have k0 := h0
  have lt0 : ∀ x ∈ p0, x.block < W.heap.size := by obtain ⟨m, hm⟩ := k0; exact DataW.trod_lt m _ _ _ hm
  obtain ⟨A0, n0, c0, C0, rfl, R0⟩ := open_deeds (hval 0 22 v0 rfl rfl) h0
  clear hA0 hval0
  refine (walk W _ _ _ _ R0).mono fun e W' ⟨he, bel⟩ => ?_
  subst he
  exact ⟨_, rfl, _, _, _, [], _, [], hW', trodAll_mk1 (shut_bool Try.underlying4 _), (trodAll_cons_mk (Below.trod laidOut (by kernel_rfl) (of_decide_eq_true (by kernel_rfl)) k0 bel lt0) trodAll_mk0), rfl, bel.frame _, fun h => by cases h⟩

theorem over : Rows.heapSoundRow.holds Try.pinned (OpenSpec.ofChange Rows.heapSoundSpec) :=
  OpenClaim.holds_of_wide 4 Try.f4 rfl rfl rfl rfl rfl rfl rfl ⟨rfl, rfl, rfl, rfl, rfl⟩ rfl rfl rfl rfl rfl (by kernel_rfl) Try.func4 (by kernel_rfl)
    (of_decide_eq_true (by kernel_rfl)) (by unfold Func.isWrapper; first | (rw [if_pos (by decide +kernel)]; kernel_rfl) | (rw [if_neg (by decide +kernel)]; exact ⟨rfl, rfl⟩))
    (fun os started H enc _ => lifted os started H enc)

theorem proved : Rows.HeapSoundSaid := over
end Go.Proofs.Ytpifodfckjphiaa.heapSound

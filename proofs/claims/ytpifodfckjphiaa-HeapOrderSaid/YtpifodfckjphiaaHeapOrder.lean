/- The law HeapOrder of chapter 02 holds for every input: it returns true, and its arguments stay. No conditions. -/
import Derived.Test.YtpifodfckjphiaaRows
import Derived.Test.YtpifodfckjphiaaLY
import Derived.Test.YtpifodfckjphiaaLW2
import Derived.Deep.RegionHeld3
import Derived.Deep.RegionWith
import Derived.StillTailTactics
import Derived.Deep.CutBlock
import Derived.WalkKit
import Derived.ProofKit
import Derived.OpenShut
import Derived.ChangeOld
import Derived.Below
namespace Go.Proofs.Ytpifodfckjphiaa.heapOrder
open Go.ChangeShapes Go.WideShapes Go.ChangeAt Go.RowKit Go.Deep Go.Joins Go.Maps
set_option linter.unusedVariables false
set_option linter.unusedSimpArgs false

theorem own : ownKnob Try.prog.godebug = none := by kernel_rfl
theorem laidOut : laidOutB Try.prog = true := by kernel_rfl

set_option maxRecDepth 100000 in
set_option maxHeartbeats 40000000 in
theorem walk (w : World) (A0 : Option Addr) (n0 c0 : Nat) (T0 : Nat → DeedT) (R0 : RawD w A0 n0 c0 T0) (A1 : Option Addr) (n1 c1 : Nat) (l1 : List Int) (R1 : RawN w A1 n1 c1 l1) :
    Calls Try.prog 9 #[.slice A0 n0 c0, .slice A1 n1 c1] w fun e w' => e = .returned (.bool true) ∧ Below w.heap.size w w' := by
  have HR := Lib.hid R0
  have hcap : n0 ≤ 9223372036854775807 := Nat.le_trans R0.le R0.cap
  clear R0
  have HR1 := Lib.hid R1
  have hcap1 : n1 ≤ 9223372036854775807 := Nat.le_trans R1.le R1.cap
  clear R1
  obtain ⟨q, hq⟩ : ∃ q, min n0 30 = q := ⟨_, rfl⟩
  have hq50 : q ≤ 30 := by omega
  have hqn : q ≤ n0 := by omega
  have HQ := Lib.hid hq
  clear hq
  go_enter Try.func9, Try.ntmps9
  go_upto_block 0 with (first | (go_at_call 10; (with_reducible refine (pnew_any _ 600 (inI_of (by decide) (by decide))).mono ?_); rintro e w1 ⟨h, B1⟩; rw [if_pos (show okN 600 = true from rfl)] at h; obtain ⟨s, bw, bm, rfl, qs, P1⟩ := h; have HP1 := Lib.hid P1; have HQ1 := Lib.hid qs; have HB1 := Lib.hid B1; clear P1 qs B1) | (go_at_call 11; (with_reducible refine (new_r (inI_of (by decide) (by decide)) (show okN 600 = true from rfl) HP1.out HQ1.out HB1.out).mono ?_); rintro e w2 ⟨r, rfl, hst⟩; have HS := Lib.hid hst; clear hst))
  go_cut [] (fun wx => ∃ m, LSt w wx s r m)
  case first =>
    go_wp2_with fail
    go_loopw [7] (fun i wr => ∃ k : Nat, k ≤ q ∧ i = .int .i64 k ∧ ∃ m, LSt w wr s r m) (fun i _ => q - (intOf i).toNat)
    case atStart => exact ⟨0, Nat.zero_le _, rfl, _, HS.out⟩
    case round =>
      obtain ⟨k, hk, rfl, m, hst⟩ := hrel
      replace HS := Lib.hid hst
      clear hst
      by_cases hlt : k < q
      · have d1 : decide (k < n0) = true := decide_eq_true (by omega)
        have d2 : decide (k < 30) = true := decide_eq_true (by omega)
        have d3 : decide ((k : Int) < 30) = true := decide_eq_true (by omega)
        have hkn : k < n0 := by omega
        obtain ⟨g, off, rfl, hgl, e0, e1, e2, e3, e4, e5, e6⟩ := (HR.out.below HS.out.stays).at_ k hkn
        obtain ⟨t, ht⟩ : ∃ t, T0 k = t := ⟨_, rfl⟩
        have HD := Lib.hid (HR.out.each k hkn)
        rw [ht] at e0 e1 e2 e3 e4 e5 e6 HD
        clear ht hgl
        have g0 : (0 : Int) ≤ (k : Int) := by omega
        have g1 : (k : Int) < (n0 : Int) := by omega
        go_wp2_with (go_at_call 12; (with_reducible refine (does_law HS.out HD.out).mono ?_); rintro e w3 ⟨rfl, hst⟩; replace HS := Lib.hid hst; clear hst)
        go_roundw
        case rel => exact ⟨k + 1, by omega, by go_num, _, HS.out⟩
        case measure => simp [intOf]; omega
      · have hkn : k = q := by omega
        rcases Nat.lt_or_ge k n0 with z | z
        · have d1 : decide (k < n0) = true := decide_eq_true z
          have hk50 : k = 30 := by have := HQ.out; omega
          have d2 : decide (k < 30) = false := decide_eq_false (by omega)
          have d3 : decide ((k : Int) < 30) = false := decide_eq_false (by omega)
          clear hlt hk50 hkn
          go_wp2_with fail
          go_meet
          exact ⟨_, HS.out⟩
        · have d1 : decide (k < n0) = false := decide_eq_false (by omega)
          clear hlt hkn
          go_wp2_with fail
          go_meet
          exact ⟨_, HS.out⟩
  case rest =>
    obtain ⟨m, hst⟩ := hcut
    replace HS := Lib.hid hst
    have HG := Lib.hid hst.lg
    have HSO := Lib.hid hst.sound
    clear hst
    obtain ⟨pn, hpn⟩ : ∃ pn, (ptrs m.L).length = pn := ⟨_, rfl⟩
    have HPN := Lib.hid hpn
    have HPL : Hid ((ptrs m.L).length ≤ 1000000) := Lib.hid (by have := len_bd HG.out.goodp; simp [ptrs]; omega)
    have HPI : Hid (∀ x, x ∈ ptrs m.L → InI x) := Lib.hid (ptrs_in HG.out.goodp)
    clear hpn HS
    obtain ⟨l, hl⟩ : ∃ l, allV (ptrs m.L) l1 = l := ⟨_, rfl⟩
    have HLV := Lib.hid hl
    have HLI : Hid (∀ x, x ∈ l → InI x) := Lib.hid (by rw [← hl]; exact allV_in HPI.out HR1.out.int)
    have hl20 : l.length ≤ 20 := by rw [← hl]; exact allV_len _ _
    have HL20 : Hid (l.length ≤ 1000000) := Lib.hid (by omega)
    obtain ⟨n5, hn5⟩ : ∃ n5, l.length = n5 := ⟨_, rfl⟩
    have HN5 := Lib.hid hn5
    rw [hn5] at hl20
    obtain ⟨mm, an, er, hm⟩ : ∃ mm an er, keepV m l = (mm, an, er) := ⟨_, _, _, rfl⟩
    by_cases he : er = 0
    · have hy := keep_yes (m := m) (l := l) (by rw [hm]; exact he)
      rw [hm] at hy
      obtain ⟨y1, y2, y3, y4⟩ := hy
      have HM := Lib.hid hm
      have HAL : Hid (an.length = n5) := Lib.hid (by rw [← hn5]; exact y2)
      have HMD : Hid ((mm.made : Int) = (m.made : Int)) := Lib.hid (by rw [show mm.made = m.made from y1])
      have HPM : Hid ((ptrs mm.L).length = n5) := Lib.hid (by rw [← hn5, ← y3]; simp [ptrs])
      have HOR : Hid (∀ i k (hi : i < l.length) (hk : k < l.length), (l[i] < l[k] ↔ an.getD i 0 < an.getD k 0)) := Lib.hid y4
      subst he
      clear hl hn5 hm y1 y2 y3 y4
      go_upto_region 18 with (first | (go_at_call 23; (with_reducible refine (g_objects HG.out HPN.out).mono ?_); rintro e w4 ⟨A4, c4, rfl, hv4, hn4, hb4, hst⟩; have HNA := Lib.hid hn4; have HIA := Lib.hid hv4; replace HG := Lib.hid hst; clear hst hv4 hn4 hb4) | (go_at_call 34; (with_reducible refine (all_any' HNA.out (HR1.out.nums.below HG.out.stays) HPN.out HR1.out.len HPL.out (by rw [HR1.out.len]; exact Nat.le_trans HR1.out.le HR1.out.cap) HR1.out.int).mono ?_); rw [HLV.out]; rintro e w5 ⟨v, rfl, hv, hb5⟩; obtain ⟨A5, c5, rfl, hc5, hn5, hl5, hm5, hob5⟩ := hv.nums; rw [HN5.out]; have hlt5 : ∀ b off, A5 = some ⟨b, off, none⟩ → w4.heap.size ≤ b ∧ b < w5.heap.size := (fun b off e => ⟨(hl5 b off e).1, (World.ownsRow.lt hv b (by rw [hob5, e]; rfl)).2⟩); have HG1 := Lib.hid (HG.out.more (Y := fun k => k < w.heap.size ∨ (w4.heap.size ≤ k ∧ k < w5.heap.size)) hb5 (fun k z => z) (fun k z => .inl z)); have HL5 := Lib.hid hn5; have HX5 := Lib.hid hlt5; clear hv hb5 hn5 hl5 hm5 hob5 hc5 hlt5) | (go_at_call 35; (with_reducible refine (g_made HG1.out).mono ?_); rintro e w6 ⟨rfl, hw6⟩; replace hw6 := hw6.symm; subst hw6) | (go_at_call 32; (with_reducible refine (g_keep' HG1.out HN5.out HL5.out HLI.out HL20.out (fun b off e => .inr (HX5.out b off e))).mono ?_); rw [HM.out]; rintro e w7 ⟨A7, c7, rfl, _, hn7, hst, hk7⟩; rw [HAL.out]; have HN7 := Lib.hid hn7; have HL7 := Lib.hid (HL5.out.keeps hk7 (fun b off e _ => .inr (HX5.out b off e))); replace HG := Lib.hid hst; clear hn7 hst hk7) | (go_at_call 23; (with_reducible refine (g_objects HG.out HPM.out).mono ?_); rintro e w8 ⟨A8, c8, rfl, _, hn8, hb8, hst⟩; have HN8 := Lib.hid hn8; replace HN7 := Lib.hid (HN7.out.below hb8); replace HL7 := Lib.hid (HL7.out.below hb8); replace HG := Lib.hid hst; clear hst hn8 hb8) | (go_at_call 35; (with_reducible refine (g_made HG.out).mono ?_); rw [HMD.out]; rintro e w6 ⟨rfl, hw6⟩; replace hw6 := hw6.symm; subst hw6))
      obtain ⟨Z, hZ⟩ : ∃ Z : Nat → Prop, (fun k => (k < w.heap.size ∨ (w4.heap.size ≤ k ∧ k < w5.heap.size)) ∨ A7.map (·.block) = some k) = Z := ⟨_, rfl⟩
      have hgz : LG Z w w8 s r mm m := by rw [← hZ]; exact HG.out
      replace HG := Lib.hid hgz
      clear hgz hZ HG1 HL5 HX5 HN8 HNA HIA
      go_wp2_with fail
      go_loopw [14] (fun x_ wy => ∃ i : Nat, i ≤ n5 ∧ x_ = .int .i64 (i : Int) ∧ wy.heap = w8.heap ∧ LG Z w wy s r mm m) (fun x_ _ => n5 - (intOf x_).toNat)
      case atStart => exact ⟨0, Nat.zero_le _, rfl, rfl, HG.out⟩
      case round =>
        obtain ⟨i, hi, rfl, hh, hst⟩ := hrel
        replace HG := Lib.hid hst
        have HH := Lib.hid hh
        clear hst hh
        by_cases hit : i < n5
        · have d1 : decide (i < n5) = true := decide_eq_true hit
          have HIL : Hid (i < l.length) := Lib.hid (by rw [HN5.out]; exact hit)
          have HIA : Hid (i < an.length) := Lib.hid (by rw [HAL.out]; exact hit)
          obtain ⟨kg, ko, rfl, _, ck⟩ := HL7.out i HIL.out
          obtain ⟨tg, to_, rfl, _, ct⟩ := HN7.out i HIA.out
          obtain ⟨x1, hx1⟩ : ∃ x, l[i]'HIL.out = x := ⟨_, rfl⟩
          obtain ⟨x2, hx2⟩ : ∃ x, an[i]'HIA.out = x := ⟨_, rfl⟩
          have HX1 := Lib.hid hx1
          have HX2 : Hid (an.getD i 0 = x2) := Lib.hid (by rw [← hx2]; simp [List.getD_eq_getElem?_getD, List.getElem?_eq_getElem HIA.out])
          rw [hx1] at ck
          rw [hx2] at ct
          have g0 : (0 : Int) ≤ (i : Int) := by omega
          have g1 : (i : Int) < (n5 : Int) := by omega
          clear hx1 hx2
          go_wp2_with fail
          go_loopw [15] (fun x_ wy => ∃ j : Nat, j ≤ n5 ∧ x_ = .int .i64 (j : Int) ∧ wy.heap = w8.heap ∧ LG Z w wy s r mm m) (fun x_ _ => n5 - (intOf x_).toNat)
          case atStart => exact ⟨0, Nat.zero_le _, rfl, HH.out, HG.out⟩
          case round =>
            obtain ⟨j, hj, rfl, hh, hst⟩ := hrel
            replace HG := Lib.hid hst
            replace HH := Lib.hid hh
            by_cases hjt : j < n5
            · have d2 : decide (j < n5) = true := decide_eq_true hjt
              have HJL : Hid (j < l.length) := Lib.hid (by rw [HN5.out]; exact hjt)
              have HJA : Hid (j < an.length) := Lib.hid (by rw [HAL.out]; exact hjt)
              obtain ⟨kg', ko', e', _, ck2⟩ := HL7.out j HJL.out
              obtain ⟨rfl, rfl⟩ : kg = kg' ∧ ko = ko' := by cases e'; exact ⟨rfl, rfl⟩
              obtain ⟨tg', to2, e'', _, ct2⟩ := HN7.out j HJA.out
              obtain ⟨rfl, rfl⟩ : tg = tg' ∧ to_ = to2 := by cases e''; exact ⟨rfl, rfl⟩
              obtain ⟨z1, hz1⟩ : ∃ x, l[j]'HJL.out = x := ⟨_, rfl⟩
              obtain ⟨z2, hz2⟩ : ∃ x, an[j]'HJA.out = x := ⟨_, rfl⟩
              have hor := HOR.out i j HIL.out HJL.out
              rw [HX1.out, HX2.out, hz1, show an.getD j 0 = z2 by rw [← hz2]; simp [List.getD_eq_getElem?_getD, List.getElem?_eq_getElem HJA.out]] at hor
              rw [hz1] at ck2
              rw [hz2] at ct2
              have ck' := (heap_cell hh _).trans ck
              have ct' := (heap_cell hh _).trans ct
              have ck2' := (heap_cell hh _).trans ck2
              have ct2' := (heap_cell hh _).trans ct2
              have g2 : (0 : Int) ≤ (j : Int) := by omega
              have g3 : (j : Int) < (n5 : Int) := by omega
              clear hz1 hz2 e' e'' hst hh ck2 ct2
              by_cases hc : x1 < z1
              · have u1 : decide (x1 < z1) = true := decide_eq_true hc
                have u2 : decide (x2 < z2) = true := decide_eq_true (hor.1 hc)
                clear hor hc
                go_wp2_with fail
                go_quiet (fail)
                go_wp2_with fail
                go_roundw
                case rel => exact ⟨j + 1, by omega, by go_num, HH.out, HG.out.drewN _⟩
                case measure => simp [intOf]; omega
              · have u1 : decide (x1 < z1) = false := decide_eq_false hc
                have u2 : decide (x2 < z2) = false := decide_eq_false (fun z => hc (hor.2 z))
                clear hor hc
                go_wp2_with fail
                go_quiet (fail)
                go_wp2_with fail
                go_roundw
                case rel => exact ⟨j + 1, by omega, by go_num, HH.out, HG.out.drewN _⟩
                case measure => simp [intOf]; omega
            · have hjn : j = n5 := by omega
              have d2 : decide (j < n5) = false := decide_eq_false hjt
              clear hjt hst hh
              subst hjn
              go_wp2_with fail
              go_roundw
              case rel => exact ⟨i + 1, by omega, by go_num, HH.out, HG.out⟩
              case measure => simp [intOf]; omega
        · have hin : i = n5 := by omega
          have d1 : decide (i < n5) = false := decide_eq_false hit
          clear hit hin
          by_cases h0 : n5 = 0
          · have y0 : (n5 == 0) = true := by simpa using h0
            have y1 : ((n5 : Int) == 0) = true := by simpa using h0
            clear h0
            go_wp2_with (first | (go_at_call 22; (with_reducible refine (lives_any _).mono ?_); rintro e w5 ⟨rfl, hb5⟩; replace HG := Lib.hid (HG.out.below hb5); clear hb5))
            go_ret
            exact ⟨ret_bool (by simp), HG.out.stays⟩
          · have y0 : (n5 == 0) = false := by simpa using h0
            have y1 : ((n5 : Int) == 0) = false := by simpa using h0
            have hp0 : 0 < (ptrs mm.L).length := by rw [HPM.out]; omega
            have HP0 : Hid ((ptrs mm.L)[0]'hp0 = 6) := Lib.hid (by rw [ptr_word (by simpa [ptrs] using hp0)]; unfold ptr; rw [adr_zero]; rfl)
            have g2 : (0 : Int) < (n5 : Int) := by omega
            have g3 : 0 < n5 := by omega
            go_wp2_with (first | (go_at_call 23; (with_reducible refine (g_objects HG.out HPM.out).mono ?_); rintro e w9 ⟨A9, c9, rfl, _, hn9, hb9, hst⟩; replace HG := Lib.hid hst; obtain ⟨a9, o9, rfl, _, cz⟩ := hn9 0 (by rw [HPM.out]; omega); rw [HP0.out, Nat.add_zero] at cz; clear hst hn9 hb9) | (go_at_call 22; (with_reducible refine (lives_any _).mono ?_); rintro e w5 ⟨rfl, hb5⟩; replace HG := Lib.hid (HG.out.below hb5); clear hb5))
            go_ret
            exact ⟨ret_bool (by simp), HG.out.stays⟩
    · have hy := keep_err (m := m) (l := l) (by rw [hm]; exact he)
      rw [hm] at hy
      obtain ⟨rfl, rfl, rfl⟩ : mm = m ∧ an = [] ∧ er = 1 := by cases hy; exact ⟨rfl, rfl, rfl⟩
      have HM := Lib.hid hm
      have HAL : Hid (([] : List Int).length = 0) := Lib.hid rfl
      clear hl hn5 hm hy he
      go_wp2_with (first | (go_at_call 23; (with_reducible refine (g_objects HG.out HPN.out).mono ?_); rintro e w4 ⟨A4, c4, rfl, hv4, hn4, hb4, hst⟩; have HNA := Lib.hid hn4; have HIA := Lib.hid hv4; replace HG := Lib.hid hst; clear hst hv4 hn4 hb4) | (go_at_call 34; (with_reducible refine (all_any' HNA.out (HR1.out.nums.below HG.out.stays) HPN.out HR1.out.len HPL.out (by rw [HR1.out.len]; exact Nat.le_trans HR1.out.le HR1.out.cap) HR1.out.int).mono ?_); rw [HLV.out]; rintro e w5 ⟨v, rfl, hv, hb5⟩; obtain ⟨A5, c5, rfl, hc5, hn5, hl5, hm5, hob5⟩ := hv.nums; rw [HN5.out]; have hlt5 : ∀ b off, A5 = some ⟨b, off, none⟩ → w4.heap.size ≤ b ∧ b < w5.heap.size := (fun b off e => ⟨(hl5 b off e).1, (World.ownsRow.lt hv b (by rw [hob5, e]; rfl)).2⟩); have HG1 := Lib.hid (HG.out.more (Y := fun k => k < w.heap.size ∨ (w4.heap.size ≤ k ∧ k < w5.heap.size)) hb5 (fun k z => z) (fun k z => .inl z)); have HL5 := Lib.hid hn5; have HX5 := Lib.hid hlt5; clear hv hb5 hn5 hl5 hm5 hob5 hc5 hlt5) | (go_at_call 35; (with_reducible refine (g_made HG1.out).mono ?_); rintro e w6 ⟨rfl, hw6⟩; replace hw6 := hw6.symm; subst hw6) | (go_at_call 32; (with_reducible refine (g_keep' HG1.out HN5.out HL5.out HLI.out HL20.out (fun b off e => .inr (HX5.out b off e))).mono ?_); rw [HM.out]; rintro e w7 ⟨A7, c7, rfl, _, hn7, hst, hk7⟩; rw [HAL.out]; have HN7 := Lib.hid hn7; have HL7 := Lib.hid (HL5.out.keeps hk7 (fun b off e _ => .inr (HX5.out b off e))); replace HG := Lib.hid hst; clear hn7 hst hk7) | (go_at_call 26; (with_reducible refine (g_like HG.out).mono ?_); rintro e w8 ⟨rfl, hst, _⟩; replace HG := Lib.hid hst; clear hst) | (go_at_call 22; (with_reducible refine (lives_any _).mono ?_); rintro e w5 ⟨rfl, hb5⟩; replace HG := Lib.hid (HG.out.below hb5); clear hb5))
      go_ret
      exact ⟨ret_bool (by simp), HG.out.stays⟩


/-! ### the row's step -/
set_option maxRecDepth 100000 in
theorem lifted (os : Os) (started : os.Started) (H : Type) (enc : TypeId × Value → H) :
    ReturnsInHanded {} Try.checked os 9 .any (Rows.heapOrderSpec.pre6 enc Try.prog Try.f9 Rows.heapOrderRow.domain false) (Rows.heapOrderSpec.post enc Try.prog Try.f9 false true false false) := by
  refine returnsInHanded_of_change (C := Try.checked) own started (by kernel_rfl) Try.func9
    (ChangeSpec.witness6 (enc := enc) (C := Try.checked) false ⟨#[], #[.slice none 0 0, .slice none 0 0], []⟩ 8 (by kernel_rfl) (by kernel_rfl) (by kernel_rfl) (by kernel_rfl)) ?_
  intro W base args ds gs before hval0 hW hcnd _
  have hval : ∀ (j : Nat) t v, Try.f9.params[j]? = some t → args[j]? = some v → Value.okWide Try.prog W .any base t v := hval0
  have hW' := hW
  obtain ⟨p, q, hA0, hV, rfl, hfz, hnd⟩ := hW
  have hA : DataW.TrodAll enc Try.prog W 0 (fun _ => true) true Try.f9.params.toList args.toList ds p := hA0
  rw [Try.params9] at hA hval
  obtain ⟨v0, vs0, d0, ds0, p0, q0, hargs, rfl, rfl, h0, r0⟩ := trodAll_cons hA
  obtain ⟨v1, vs1, d1, ds1, p1, q1, rfl, rfl, rfl, h1, r1⟩ := trodAll_cons r0
  obtain ⟨rfl, rfl, rfl⟩ := trodAll_nil r1
  obtain rfl : args = #[v0, v1] := by cases args; simp_all
  obtain ⟨rfl, rfl⟩ := trodVars_none hV
  have k0 := h0
  have lt0 : ∀ x ∈ p0, x.block < W.heap.size := by obtain ⟨m, hm⟩ := k0; exact DataW.trod_lt m _ _ _ hm
  obtain ⟨A0, n0, c0, C0, rfl, R0⟩ := open_deeds (hval 0 22 v0 rfl rfl) h0
  have k1 := h1
  have lt1 : ∀ x ∈ p1, x.block < W.heap.size := by obtain ⟨m, hm⟩ := k1; exact DataW.trod_lt m _ _ _ hm
  obtain ⟨A1, n1, c1, C1, rfl, R1⟩ := open_nlist (hval 1 28 v1 rfl rfl) h1
  clear hA0 hval0
  refine (walk W _ _ _ _ R0 _ _ _ _ R1).mono fun e W' ⟨he, bel⟩ => ?_
  subst he
  exact ⟨_, rfl, _, _, _, [], _, [], hW', trodAll_mk1 (shut_bool Try.underlying4 _), (trodAll_cons_mk (Below.trod laidOut (by kernel_rfl) (of_decide_eq_true (by kernel_rfl)) k0 bel lt0) (trodAll_cons_mk (Below.trod laidOut (by kernel_rfl) (of_decide_eq_true (by kernel_rfl)) k1 bel lt1) trodAll_mk0)), rfl, bel.frame _, fun h => by cases h⟩

theorem over : Rows.heapOrderRow.holds Try.pinned (OpenSpec.ofChange Rows.heapOrderSpec) :=
  OpenClaim.holds_of_wide 9 Try.f9 rfl rfl rfl rfl rfl rfl rfl ⟨rfl, rfl, rfl, rfl, rfl⟩ rfl rfl rfl rfl rfl (by kernel_rfl) Try.func9 (by kernel_rfl)
    (of_decide_eq_true (by kernel_rfl)) (by unfold Func.isWrapper; first | (rw [if_pos (by decide +kernel)]; kernel_rfl) | (rw [if_neg (by decide +kernel)]; exact ⟨rfl, rfl⟩))
    (fun os started H enc _ => lifted os started H enc)

theorem proved : Rows.HeapOrderSaid := over
end Go.Proofs.Ytpifodfckjphiaa.heapOrder

/- The law CodeRound of chapter 09 holds for every input: it returns true, and its arguments stay. The tables that the row lists are tied to the program's text. -/
import Derived.Test.YtclndbiljhbbkaaDoorRows
import Derived.Test.YtclndbiljhbbkaaDoorTie
import Derived.Test.YtclndbiljhbbkaaDoorCards
import Derived.Test.YtclndbiljhbbkaaDoorC11
import Derived.WalkKit
import Derived.ProofKit
import Derived.OpenShut
import Derived.ChangeOld
import Derived.Below
import Derived.SevenTiedAt
namespace Go.Proofs.YtclndbiljhbbkaaDoor.codeRound
open Go.ChangeShapes Go.WideShapes Go.ChangeAt Go.RowKit Go.Deep Go.Joins
set_option linter.unusedVariables false
set_option linter.unusedSimpArgs false

set_option maxRecDepth 100000 in
set_option maxHeartbeats 40000000 in
theorem walk (w : World) (hT : TabsB w) (A0 : Option Addr) (n0 c0 : Nat) (C0 : Nat → Ins) (R0 : RawC w A0 n0 c0 C0) (A1 : Option Addr) (n1 c1 : Nat) (F1 : Nat → Int) (R1 : RawB w A1 n1 c1 F1) :
    Calls Tryd.prog 9 #[.slice A0 n0 c0, .slice A1 n1 c1] w fun e w' => e = .returned (.bool true) ∧ Below w.heap.size w w' := by
  have HT := Lib.hid hT
  have hle0 := R0.le
  have hcap0 := R0.cap
  obtain ⟨m0, hm0⟩ : ∃ m, (if 450 < n0 then 450 else n0) = m := ⟨_, rfl⟩
  have hmn0 : m0 ≤ n0 := by rw [← hm0]; split <;> omega
  have HC0 : Hid (IsCode w A0 m0 C0) := Lib.hid (Row.less R0.row hmn0)
  have hfew := few_any (p := A0) w hle0 hcap0
  rw [hm0] at hfew
  have HF := Lib.hid hfew
  clear hT R0 hm0 hfew
  have hle1 := R1.le
  have hcap1 := R1.cap
  obtain ⟨m1, hm1⟩ : ∃ m, (if 1300 < n1 then 1300 else n1) = m := ⟨_, rfl⟩
  have le1 : m1 ≤ n1 ∧ m1 ≤ 1300 := by rw [← hm1]; split <;> omega
  have HM1 := Lib.hid hm1
  have HB1 : Hid (IsBytes w A1 m1 F1) := Lib.hid (Row.less R1.row le1.1)
  have HF1 : Hid (∀ i, i < m1 → 0 ≤ F1 i ∧ F1 i ≤ 255) := Lib.hid (fun i hi => R1.bnd i (by omega))
  have hmc1 : m1 ≤ c1 := by omega
  have hmt1 : m1 ≤ 2000 := by omega
  clear R1 hm1
  go_enter Tryd.func9, Tryd.ntmps9
  go_upto_region 2 with (go_at_call 10; (with_reducible refine HF.out.mono ?_); rintro e w2 ⟨rfl, hw2⟩; replace hw2 := hw2.symm; subst hw2)
  go_upto_if 18 with (fail)
  go_cut [1] (fun v wx => v = .slice A1 m1 c1 ∧ wx = w)
  case first =>
    by_cases h : 1300 < n1
    · have F : Hid (m1 = 1300) := Lib.hid (by rw [← HM1.out]; exact if_pos h)
      have d : decide (1300 < n1) = true := decide_eq_true h
      have d' : decide ((1300 : Int) < (n1 : Int)) = true := decide_eq_true (by omega)
      have b : (1300 : Int) ≤ (c1 : Int) := by omega
      have b' : 1300 ≤ c1 := by omega
      go_wp2
      go_meet
      exact ⟨by rw [F.out], rfl⟩
    · have F : Hid (m1 = n1) := Lib.hid (by rw [← HM1.out]; exact if_neg h)
      have d : decide (1300 < n1) = false := decide_eq_false h
      have d' : decide ((1300 : Int) < (n1 : Int)) = false := decide_eq_false (by omega)
      go_wp2
      go_meet
      exact ⟨by rw [F.out], rfl⟩
  case rest =>
  obtain ⟨rfl, hwc⟩ := hcut
  replace hwc := hwc.symm
  subst hwc
  go_wp2_with fail
  (with_reducible refine (put_any (c := c0) HC0.out).mono ?_)
  rintro e w1 ⟨v1, rfl, hby1, hb1⟩
  by_cases hok : m0 ≤ 400 ∧ mayTo C0 m0 = true
  · have hp : putV C0 m0 = (bytesV C0 m0, 0) := if_pos hok
    rw [hp] at hby1 ⊢
    dsimp only at hby1 ⊢
    obtain ⟨AA, ca, rfl, hca, hca2, hbytes⟩ := bints_bytes hby1
    have hl := bytes_len C0 m0
    have hr2 := read_any hbytes (bytes_bound hok.2) (by omega) hca hca2
    have HRB : Hid (readV (fun i => (bytesV C0 m0).getD i 0) (bytesV C0 m0).length = (m0, 0)) := Lib.hid (read_back C0 hok.1 hok.2)
    have HR2 := Lib.hid hr2
    have hm4 := hok.1
    clear hr2 hbytes hby1 hp hok
    obtain ⟨zl, hzl⟩ : ∃ zl, (bytesV C0 m0).length = zl := ⟨_, rfl⟩
    rw [hzl] at HR2 HRB ⊢
    clear hzl hl hca
    go_wp2_with fail
    (with_reducible refine HR2.out.mono ?_)
    rintro e w2 ⟨v2, rfl, hi2, hb2⟩
    rw [HRB.out] at hi2 ⊢
    obtain ⟨A2, d2, rfl, _, _, hc2⟩ := hi2.code
    have hB2 := hb1.trans (hb2.mono hb1.size)
    have HC2 : Hid (IsCode w2 A2 m0 C0) := Lib.hid (code_congr hc2 (fun k hk => insB_bytes C0 hk))
    have HC02 : Hid (IsCode w2 A0 m0 C0) := Lib.hid (code_kept HC0.out hB2)
    clear hi2 hc2 HR2
    go_wp2_with fail
    (with_reducible refine (code_same HC02.out HC2.out (by omega) (Below.refl _ _)).mono ?_)
    rintro e w3 ⟨rfl, hb3⟩
    have hB3 := hB2.trans (hb3.mono hB2.size)
    have hr3 := read_any (HB1.out.below hB3) HF1.out hmt1 hmc1 hcap1
    have HR3 := Lib.hid hr3
    clear hr3
    go_wp2_with fail
    (with_reducible refine HR3.out.mono ?_)
    rintro e w4 ⟨v4, rfl, hi4, hb4⟩
    have hB4 := hB3.trans (hb4.mono hB3.size)
    by_cases hgood : m1 % 3 = 0 ∧ m1 ≤ 1200 ∧ mayTo (insB F1) (m1 / 3) = true
    · have hv : readV F1 m1 = (m1 / 3, 0) := if_pos hgood
      rw [hv] at hi4 ⊢
      obtain ⟨A4, d4, rfl, _, _, hc4⟩ := hi4.code
      have HC4 := Lib.hid hc4
      have HP : Hid (putV (insB F1) (m1 / 3) = (bytesV (insB F1) (m1 / 3), 0)) := Lib.hid (if_pos ⟨by omega, hgood.2.2⟩)
      have HBO : Hid (bytesV (insB F1) (m1 / 3) = (List.range m1).map F1) := Lib.hid (by rw [bytes_of, show 3 * (m1 / 3) = m1 by omega])
      clear hi4 hc4 hv hgood
      go_wp2_with fail
      (with_reducible refine (put_any (c := d4) HC4.out).mono ?_)
      rintro e w5 ⟨v5, rfl, hby5, hb5⟩
      rw [HP.out] at hby5 ⊢
      have hB5 := hB4.trans (hb5.mono hB4.size)
      have x5 := bints_conv hby5
      rw [HBO.out] at x5
      have x6 := raw_conv (c := c1) (HB1.out.below hB5)
      obtain ⟨sv, hsv⟩ : ∃ sv, strOfNums ((List.range m1).map F1) = sv := ⟨_, rfl⟩
      rw [hsv] at x5 x6
      have hBZ := hB5
      clear hby5 hsv
      go_wp2_with fail
      (with_reducible refine (lives_any _ (HT.out.below hBZ)).mono ?_)
      rintro e w9 ⟨rfl, hb9⟩
      go_wp2_with fail
      go_ret
      exact ⟨rfl, hBZ.trans (hb9.mono hBZ.size)⟩
    · have hv : readV F1 m1 = (0, 19) := if_neg hgood
      rw [hv] at hi4 ⊢
      have hBZ := hB4
      clear hi4 hv hgood
      go_wp2_with fail
      (with_reducible refine (lives_any _ (HT.out.below hBZ)).mono ?_)
      rintro e w9 ⟨rfl, hb9⟩
      go_wp2_with fail
      go_ret
      exact ⟨rfl, hBZ.trans (hb9.mono hBZ.size)⟩
  · have hp : putV C0 m0 = ([], 19) := if_neg hok
    rw [hp] at hby1 ⊢
    clear hby1 hp hok
    have hr3 := read_any (HB1.out.below hb1) HF1.out hmt1 hmc1 hcap1
    have HR3 := Lib.hid hr3
    clear hr3
    go_wp2_with fail
    (with_reducible refine HR3.out.mono ?_)
    rintro e w4 ⟨v4, rfl, hi4, hb4⟩
    have hB4 := hb1.trans (hb4.mono hb1.size)
    by_cases hgood : m1 % 3 = 0 ∧ m1 ≤ 1200 ∧ mayTo (insB F1) (m1 / 3) = true
    · have hv : readV F1 m1 = (m1 / 3, 0) := if_pos hgood
      rw [hv] at hi4 ⊢
      obtain ⟨A4, d4, rfl, _, _, hc4⟩ := hi4.code
      have HC4 := Lib.hid hc4
      have HP : Hid (putV (insB F1) (m1 / 3) = (bytesV (insB F1) (m1 / 3), 0)) := Lib.hid (if_pos ⟨by omega, hgood.2.2⟩)
      have HBO : Hid (bytesV (insB F1) (m1 / 3) = (List.range m1).map F1) := Lib.hid (by rw [bytes_of, show 3 * (m1 / 3) = m1 by omega])
      clear hi4 hc4 hv hgood
      go_wp2_with fail
      (with_reducible refine (put_any (c := d4) HC4.out).mono ?_)
      rintro e w5 ⟨v5, rfl, hby5, hb5⟩
      rw [HP.out] at hby5 ⊢
      have hB5 := hB4.trans (hb5.mono hB4.size)
      have x5 := bints_conv hby5
      rw [HBO.out] at x5
      have x6 := raw_conv (c := c1) (HB1.out.below hB5)
      obtain ⟨sv, hsv⟩ : ∃ sv, strOfNums ((List.range m1).map F1) = sv := ⟨_, rfl⟩
      rw [hsv] at x5 x6
      have hBZ := hB5
      clear hby5 hsv
      go_wp2_with fail
      (with_reducible refine (lives_any _ (HT.out.below hBZ)).mono ?_)
      rintro e w9 ⟨rfl, hb9⟩
      go_wp2_with fail
      go_ret
      exact ⟨rfl, hBZ.trans (hb9.mono hBZ.size)⟩
    · have hv : readV F1 m1 = (0, 19) := if_neg hgood
      rw [hv] at hi4 ⊢
      have hBZ := hB4
      clear hi4 hv hgood
      go_wp2_with fail
      (with_reducible refine (lives_any _ (HT.out.below hBZ)).mono ?_)
      rintro e w9 ⟨rfl, hb9⟩
      go_wp2_with fail
      go_ret
      exact ⟨rfl, hBZ.trans (hb9.mono hBZ.size)⟩


/-! ### the row's step -/
set_option maxRecDepth 100000 in
theorem lifted (os : Os) (started : os.Started) (H : Type) (enc : TypeId × Value → H) :
    ReturnsInHanded {} Tryd.checked os 9 .any (fun w args => (Rows.codeRoundSpec.pre enc Tryd.prog Tryd.f9 [] false w args ∧ laidMetH Tryd.prog laid4 w) ∧ sizedMet enc Tryd.prog Tryd.f9 (OpenSpec.ofChange Rows.codeRoundSpec) false w args) (Rows.codeRoundSpec.post enc Tryd.prog Tryd.f9 false true false false) := by
  refine returnsInHanded_of_change_and (C := Tryd.checked) (X := fun w _ => laidMetH Tryd.prog laid4 w) (fun _ _ _ hh h => h.of_heap hh) own9 started (by kernel_rfl) Tryd.func9
    (ChangeSpec.witness_shaped (enc := enc) (C := Tryd.checked) (os := os) (X := fun w _ => laidMetH Tryd.prog laid4 w) false (World.doorLaid Tryd.prog 29 os) #[.slice none 0 0, .slice none 0 0] 8 rfl (World.shaped_of_RefB (by kernel_rfl) (by kernel_rfl)) (by kernel_rfl) (by kernel_rfl) (by kernel_rfl) (door_met os _)) ?_
  intro W base args ds gs before hval0 hW _ _ hL _
  have hval : ∀ (j : Nat) t v, Tryd.f9.params[j]? = some t → args[j]? = some v → Value.okWide Tryd.prog W .any base t v := hval0
  have hW' := hW
  obtain ⟨p, q, hA0, hV, rfl, hfz, hnd⟩ := hW
  have hA : DataW.TrodAll enc Tryd.prog W 0 (fun _ => true) true Tryd.f9.params.toList args.toList ds p := hA0
  rw [Tryd.params9] at hA hval
  obtain ⟨v0, vs0, d0, ds0, p0, q0, hargs, rfl, rfl, h0, r0⟩ := trodAll_cons hA
  obtain ⟨v1, vs1, d1, ds1, p1, q1, rfl, rfl, rfl, h1, r1⟩ := trodAll_cons r0
  obtain ⟨rfl, rfl, rfl⟩ := trodAll_nil r1
  obtain rfl : args = #[v0, v1] := by cases args; simp_all
  obtain ⟨rfl, rfl⟩ := trodVars_none hV
  have k0 := h0
  have lt0 : ∀ x ∈ p0, x.block < W.heap.size := by obtain ⟨m, hm⟩ := k0; exact DataW.trod_lt m _ _ _ hm
  obtain ⟨A0, n0, c0, C0, rfl, R0⟩ := open_code (hval 0 22 v0 rfl rfl) h0
  have k1 := h1
  have lt1 : ∀ x ∈ p1, x.block < W.heap.size := by obtain ⟨m, hm⟩ := k1; exact DataW.trod_lt m _ _ _ hm
  obtain ⟨A1, n1, c1, F1, rfl, R1⟩ := open_bytes (hval 1 24 v1 rfl rfl) h1
  clear hA0 hval0
  refine (walk W (tabs_of_laid hL) _ _ _ _ R0 _ _ _ _ R1).mono fun e W' ⟨he, bel⟩ => ?_
  subst he
  exact ⟨_, rfl, _, _, _, [], _, [], hW', trodAll_mk1 (shut_bool Tryd.underlying4 _), (trodAll_cons_mk (Below.trod laidOut9 (by kernel_rfl) (of_decide_eq_true (by kernel_rfl)) k0 bel lt0) (trodAll_cons_mk (Below.trod laidOut9 (by kernel_rfl) (of_decide_eq_true (by kernel_rfl)) k1 bel lt1) trodAll_mk0)), rfl, bel.frame _, fun h => by cases h⟩

theorem over : Rows.codeRoundRow.holds Tryd.pinned (OpenSpec.ofChange Rows.codeRoundSpec) :=
  OpenClaim.holds_of_wide 9 Tryd.f9 rfl rfl rfl rfl rfl rfl rfl ⟨rfl, rfl, rfl, rfl, rfl⟩ rfl rfl rfl rfl rfl (by kernel_rfl) Tryd.func9 (by kernel_rfl)
    (of_decide_eq_true (by kernel_rfl)) (by unfold Func.isWrapper; first | (rw [if_pos (by decide +kernel)]; kernel_rfl) | (rw [if_neg (by decide +kernel)]; exact ⟨rfl, rfl⟩))
    (fun os started H enc _ => lifted os started H enc)

theorem proved : Rows.CodeRoundCardSaid :=
  Claim7.holds_tied_plain_at .later [] [.data, .data, .data, .data] true (true, "19e9b0c65279d3d3fe7d7dcd55886fc2e804bea849dccd7f0254f23fa2434a49") false
    over (fun _ h => by cases h) (by kernel_rfl) (fun _ h => by cases h) codeRound_row_tie rfl ⟨rfl, rfl⟩ (by kernel_rfl) rfl
    (fun f fn hf hfn => by
      obtain rfl : f = 9 := Option.some.inj ((show Tryd.prog.funcNamed Rows.codeRoundRow.func = some 9 by kernel_rfl).symm.trans hf) |>.symm
      obtain rfl : fn = Tryd.f9 := (Option.some.inj (Tryd.func9.symm.trans hfn)).symm
      exact ⟨by kernel_rfl, fun j t ht => by
        rw [Tryd.params9] at ht
        have hm : t ∈ [22, 24] := by simpa using Array.mem_of_getElem? ht
        have hall : ([22, 24].all fun u => !Tryd.prog.wantsStandIn u) = true := by kernel_rfl
        exact (show Tryd.prog.wantsStandIn t = false by simpa using List.all_eq_true.1 hall t hm)⟩)
    (by kernel_rfl)
end Go.Proofs.YtclndbiljhbbkaaDoor.codeRound

/- The law CodeReads of chapter 09 holds for every input: it returns true, and its arguments stay. The tables that the row lists are tied to the program's text. -/
import Derived.Test.YtclndbiljhbbkaaDoorRows
import Derived.Test.YtclndbiljhbbkaaDoorTie
import Derived.Test.YtclndbiljhbbkaaDoorCards
import Derived.Test.YtclndbiljhbbkaaDoorC11
import Derived.WalkKit
import Derived.ProofKit
import Derived.OpenShut
import Derived.ChangeOld
import Derived.Below
import Derived.SevenTiedAt
namespace Go.Proofs.YtclndbiljhbbkaaDoor.codeReads
open Go.ChangeShapes Go.WideShapes Go.ChangeAt Go.RowKit Go.Deep Go.Joins
set_option linter.unusedVariables false
set_option linter.unusedSimpArgs false

set_option maxRecDepth 100000 in
set_option maxHeartbeats 40000000 in
theorem walk (w : World) (hT : TabsB w) (A0 : Option Addr) (n0 c0 : Nat) (F0 : Nat → Int) (R0 : RawB w A0 n0 c0 F0) :
    Calls Tryd.prog 8 #[.slice A0 n0 c0] w fun e w' => e = .returned (.bool true) ∧ Below w.heap.size w w' := by
  have HT := Lib.hid hT
  clear hT
  have hle0 := R0.le
  have hcap0 := R0.cap
  obtain ⟨m0, hm0⟩ : ∃ m, (if 1300 < n0 then 1300 else n0) = m := ⟨_, rfl⟩
  have le0 : m0 ≤ n0 ∧ m0 ≤ 1300 := by rw [← hm0]; split <;> omega
  have HM0 := Lib.hid hm0
  have HB0 : Hid (IsBytes w A0 m0 F0) := Lib.hid (Row.less R0.row le0.1)
  have HF0 : Hid (∀ i, i < m0 → 0 ≤ F0 i ∧ F0 i ≤ 255) := Lib.hid (fun i hi => R0.bnd i (by omega))
  have hmc0 : m0 ≤ c0 := by omega
  have hmt0 : m0 ≤ 2000 := by omega
  clear R0 hm0
  go_enter Tryd.func8, Tryd.ntmps8
  go_upto_if 10 with (fail)
  go_cut [0] (fun v wx => v = .slice A0 m0 c0 ∧ wx = w)
  case first =>
    by_cases h : 1300 < n0
    · have F : Hid (m0 = 1300) := Lib.hid (by rw [← HM0.out]; exact if_pos h)
      have d : decide (1300 < n0) = true := decide_eq_true h
      have d' : decide ((1300 : Int) < (n0 : Int)) = true := decide_eq_true (by omega)
      have b : (1300 : Int) ≤ (c0 : Int) := by omega
      have b' : 1300 ≤ c0 := by omega
      go_wp2
      go_meet
      exact ⟨by rw [F.out], rfl⟩
    · have F : Hid (m0 = n0) := Lib.hid (by rw [← HM0.out]; exact if_neg h)
      have d : decide (1300 < n0) = false := decide_eq_false h
      have d' : decide ((1300 : Int) < (n0 : Int)) = false := decide_eq_false (by omega)
      go_wp2
      go_meet
      exact ⟨by rw [F.out], rfl⟩
  case rest =>
  obtain ⟨rfl, hwc⟩ := hcut
  replace hwc := hwc.symm
  subst hwc
  have hr1 := read_any HB0.out HF0.out hmt0 hmc0 hcap0
  have HR1 := Lib.hid hr1
  clear hr1
  go_wp2_with fail
  (with_reducible refine HR1.out.mono ?_)
  rintro e w1 ⟨v1, rfl, hi1, hb1⟩
  have hr2 := rread_any (HB0.out.below hb1) HF0.out hmt0 hmc0 hcap0
  obtain ⟨kk, hkk⟩ : ∃ k, (readV F0 m0).1 = k := ⟨_, rfl⟩
  obtain ⟨er, her⟩ : ∃ k, (readV F0 m0).2 = k := ⟨_, rfl⟩
  have hk4 : kk ≤ 400 := by rw [← hkk]; exact readV_le _ _
  have HR2 := Lib.hid hr2
  rw [hkk] at hi1
  rw [her]
  have HI1 := Lib.hid hi1
  clear hr2 hi1
  go_wp2_with fail
  (with_reducible refine HR2.out.mono ?_)
  rintro e w2 ⟨v2, rfl, hi2, hb2⟩
  rw [hkk] at hi2
  rw [her]
  obtain ⟨A1, d1, rfl, _, _, hc1⟩ := HI1.out.code
  obtain ⟨A2, d2, rfl, _, _, hc2⟩ := hi2.code
  have HC1 := Lib.hid (code_kept hc1 hb2)
  have HC2 := Lib.hid hc2
  have hB2 := hb1.trans (hb2.mono hb1.size)
  clear hkk her hi2 hc1 hc2 HI1 HR1 HR2
  go_wp2_with fail
  (with_reducible refine (code_same HC1.out HC2.out (by omega) (Below.refl _ _)).mono ?_)
  rintro e w3 ⟨rfl, hb3⟩
  have hB3 := hB2.trans (hb3.mono hB2.size)
  go_wp2_with fail
  (with_reducible refine (lives_any _ (HT.out.below hB3)).mono ?_)
  rintro e w9 ⟨rfl, hb9⟩
  go_wp2_with fail
  go_ret
  exact ⟨rfl, hB3.trans (hb9.mono hB3.size)⟩


/-! ### the row's step -/
set_option maxRecDepth 100000 in
theorem lifted (os : Os) (started : os.Started) (H : Type) (enc : TypeId × Value → H) :
    ReturnsInHanded {} Tryd.checked os 8 .any (fun w args => (Rows.codeReadsSpec.pre enc Tryd.prog Tryd.f8 [] false w args ∧ laidMetH Tryd.prog laid4 w) ∧ sizedMet enc Tryd.prog Tryd.f8 (OpenSpec.ofChange Rows.codeReadsSpec) false w args) (Rows.codeReadsSpec.post enc Tryd.prog Tryd.f8 false true false false) := by
  refine returnsInHanded_of_change_and (C := Tryd.checked) (X := fun w _ => laidMetH Tryd.prog laid4 w) (fun _ _ _ hh h => h.of_heap hh) own9 started (by kernel_rfl) Tryd.func8
    (ChangeSpec.witness_shaped (enc := enc) (C := Tryd.checked) (os := os) (X := fun w _ => laidMetH Tryd.prog laid4 w) false (World.doorLaid Tryd.prog 29 os) #[.slice none 0 0] 8 rfl (World.shaped_of_RefB (by kernel_rfl) (by kernel_rfl)) (by kernel_rfl) (by kernel_rfl) (by kernel_rfl) (door_met os _)) ?_
  intro W base args ds gs before hval0 hW _ _ hL _
  have hval : ∀ (j : Nat) t v, Tryd.f8.params[j]? = some t → args[j]? = some v → Value.okWide Tryd.prog W .any base t v := hval0
  have hW' := hW
  obtain ⟨p, q, hA0, hV, rfl, hfz, hnd⟩ := hW
  have hA : DataW.TrodAll enc Tryd.prog W 0 (fun _ => true) true Tryd.f8.params.toList args.toList ds p := hA0
  rw [Tryd.params8] at hA hval
  obtain ⟨v0, vs0, d0, ds0, p0, q0, hargs, rfl, rfl, h0, r0⟩ := trodAll_cons hA
  obtain ⟨rfl, rfl, rfl⟩ := trodAll_nil r0
  obtain rfl : args = #[v0] := by cases args; simp_all
  obtain ⟨rfl, rfl⟩ := trodVars_none hV
  have k0 := h0
  have lt0 : ∀ x ∈ p0, x.block < W.heap.size := by obtain ⟨m, hm⟩ := k0; exact DataW.trod_lt m _ _ _ hm
  obtain ⟨A0, n0, c0, F0, rfl, R0⟩ := open_bytes (hval 0 24 v0 rfl rfl) h0
  clear hA0 hval0
  refine (walk W (tabs_of_laid hL) _ _ _ _ R0).mono fun e W' ⟨he, bel⟩ => ?_
  subst he
  exact ⟨_, rfl, _, _, _, [], _, [], hW', trodAll_mk1 (shut_bool Tryd.underlying4 _), (trodAll_cons_mk (Below.trod laidOut9 (by kernel_rfl) (of_decide_eq_true (by kernel_rfl)) k0 bel lt0) trodAll_mk0), rfl, bel.frame _, fun h => by cases h⟩

theorem over : Rows.codeReadsRow.holds Tryd.pinned (OpenSpec.ofChange Rows.codeReadsSpec) :=
  OpenClaim.holds_of_wide 8 Tryd.f8 rfl rfl rfl rfl rfl rfl rfl ⟨rfl, rfl, rfl, rfl, rfl⟩ rfl rfl rfl rfl rfl (by kernel_rfl) Tryd.func8 (by kernel_rfl)
    (of_decide_eq_true (by kernel_rfl)) (by unfold Func.isWrapper; first | (rw [if_pos (by decide +kernel)]; kernel_rfl) | (rw [if_neg (by decide +kernel)]; exact ⟨rfl, rfl⟩))
    (fun os started H enc _ => lifted os started H enc)

theorem proved : Rows.CodeReadsCardSaid :=
  Claim7.holds_tied_plain_at .later [] [.data, .data, .data, .data] true (true, "19e9b0c65279d3d3fe7d7dcd55886fc2e804bea849dccd7f0254f23fa2434a49") false
    over (fun _ h => by cases h) (by kernel_rfl) (fun _ h => by cases h) codeReads_row_tie rfl ⟨rfl, rfl⟩ (by kernel_rfl) rfl
    (fun f fn hf hfn => by
      obtain rfl : f = 8 := Option.some.inj ((show Tryd.prog.funcNamed Rows.codeReadsRow.func = some 8 by kernel_rfl).symm.trans hf) |>.symm
      obtain rfl : fn = Tryd.f8 := (Option.some.inj (Tryd.func8.symm.trans hfn)).symm
      exact ⟨by kernel_rfl, fun j t ht => by
        rw [Tryd.params8] at ht
        have hm : t ∈ [24] := by simpa using Array.mem_of_getElem? ht
        have hall : ([24].all fun u => !Tryd.prog.wantsStandIn u) = true := by kernel_rfl
        exact (show Tryd.prog.wantsStandIn t = false by simpa using List.all_eq_true.1 hall t hm)⟩)
    (by kernel_rfl)
end Go.Proofs.YtclndbiljhbbkaaDoor.codeReads

/- The law CodePuts of chapter 09 holds for every input: it returns true, and its arguments stay. The tables that the row lists are tied to the program's text. -/
import Derived.Test.YtclndbiljhbbkaaDoorRows
import Derived.Test.YtclndbiljhbbkaaDoorTie
import Derived.Test.YtclndbiljhbbkaaDoorCards
import Derived.Test.YtclndbiljhbbkaaDoorC5
import Derived.WalkKit
import Derived.ProofKit
import Derived.OpenShut
import Derived.ChangeOld
import Derived.Below
import Derived.SevenTiedAt
namespace Go.Proofs.YtclndbiljhbbkaaDoor.codePuts
open Go.ChangeShapes Go.WideShapes Go.ChangeAt Go.RowKit
set_option linter.unusedVariables false
set_option linter.unusedSimpArgs false

set_option maxRecDepth 100000 in
set_option maxHeartbeats 40000000 in
theorem walk (w : World) (hT : TabsB w) (A0 : Option Addr) (n0 c0 : Nat) (C0 : Nat → Ins) (R0 : RawC w A0 n0 c0 C0) :
    Calls Tryd.prog 3 #[.slice A0 n0 c0] w fun e w' => e = .returned (.bool true) ∧ Below w.heap.size w w' := by
  have HT := Lib.hid hT
  have hle := R0.le
  have hcap := R0.cap
  obtain ⟨m, hm⟩ : ∃ m, (if 450 < n0 then 450 else n0) = m := ⟨_, rfl⟩
  have hmn : m ≤ n0 := by rw [← hm]; split <;> omega
  have HC : Hid (IsCode w A0 m C0) := Lib.hid (Row.less R0.row hmn)
  have hfew := few_any (p := A0) w hle hcap
  rw [hm] at hfew
  have HF := Lib.hid hfew
  clear hT R0 hm hfew
  go_enter Tryd.func3, Tryd.ntmps3
  go_wp2_with (go_at_call 10; (with_reducible refine HF.out.mono ?_); rintro e w2 ⟨rfl, hw2⟩; replace hw2 := hw2.symm; subst hw2)
  (with_reducible refine (put_any (c := c0) HC.out).mono ?_)
  rintro e w2 ⟨v, rfl, hby, hb2⟩
  obtain ⟨zs, hzs⟩ : ∃ zs, (putV C0 m).1 = zs := ⟨_, rfl⟩
  obtain ⟨er, her⟩ : ∃ er, (putV C0 m).2 = er := ⟨_, rfl⟩
  rw [hzs] at hby
  rw [her]
  have HBY := Lib.hid hby
  clear hby
  go_wp2_with fail
  (with_reducible refine (rput_any (c := c0) (code_kept HC.out hb2)).mono ?_)
  rintro e w3 ⟨u, rfl, hby3, hb3⟩
  rw [hzs] at hby3
  rw [her]
  have cv := bints_conv (HBY.out.below hb3)
  have cu := bints_conv hby3
  have hB3 := hb2.trans (hb3.mono hb2.size)
  clear hby3 hzs her hb3
  go_wp2_with fail
  (with_reducible refine (lives_any _ (HT.out.below hB3)).mono ?_)
  rintro e w9 ⟨rfl, hb9⟩
  go_wp2_with fail
  go_ret
  exact ⟨rfl, hB3.trans (hb9.mono hB3.size)⟩


/-! ### the row's step -/
set_option maxRecDepth 100000 in
theorem lifted (os : Os) (started : os.Started) (H : Type) (enc : TypeId × Value → H) :
    ReturnsInHanded {} Tryd.checked os 3 .any (fun w args => (Rows.codePutsSpec.pre enc Tryd.prog Tryd.f3 [] false w args ∧ laidMetH Tryd.prog laid4 w) ∧ sizedMet enc Tryd.prog Tryd.f3 (OpenSpec.ofChange Rows.codePutsSpec) false w args) (Rows.codePutsSpec.post enc Tryd.prog Tryd.f3 false true false false) := by
  refine returnsInHanded_of_change_and (C := Tryd.checked) (X := fun w _ => laidMetH Tryd.prog laid4 w) (fun _ _ _ hh h => h.of_heap hh) own9 started (by kernel_rfl) Tryd.func3
    (ChangeSpec.witness_shaped (enc := enc) (C := Tryd.checked) (os := os) (X := fun w _ => laidMetH Tryd.prog laid4 w) false (World.doorLaid Tryd.prog 29 os) #[.slice none 0 0] 8 rfl (World.shaped_of_RefB (by kernel_rfl) (by kernel_rfl)) (by kernel_rfl) (by kernel_rfl) (by kernel_rfl) (door_met os _)) ?_
  intro W base args ds gs before hval0 hW _ _ hL _
  have hval : ∀ (j : Nat) t v, Tryd.f3.params[j]? = some t → args[j]? = some v → Value.okWide Tryd.prog W .any base t v := hval0
  have hW' := hW
  obtain ⟨p, q, hA0, hV, rfl, hfz, hnd⟩ := hW
  have hA : DataW.TrodAll enc Tryd.prog W 0 (fun _ => true) true Tryd.f3.params.toList args.toList ds p := hA0
  rw [Tryd.params3] at hA hval
  obtain ⟨v0, vs0, d0, ds0, p0, q0, hargs, rfl, rfl, h0, r0⟩ := trodAll_cons hA
  obtain ⟨rfl, rfl, rfl⟩ := trodAll_nil r0
  obtain rfl : args = #[v0] := by cases args; simp_all
  obtain ⟨rfl, rfl⟩ := trodVars_none hV
  have k0 := h0
  have lt0 : ∀ x ∈ p0, x.block < W.heap.size := by obtain ⟨m, hm⟩ := k0; exact DataW.trod_lt m _ _ _ hm
  obtain ⟨A0, n0, c0, C0, rfl, R0⟩ := open_code (hval 0 22 v0 rfl rfl) h0
  clear hA0 hval0
  refine (walk W (tabs_of_laid hL) _ _ _ _ R0).mono fun e W' ⟨he, bel⟩ => ?_
  subst he
  exact ⟨_, rfl, _, _, _, [], _, [], hW', trodAll_mk1 (shut_bool Tryd.underlying4 _), (trodAll_cons_mk (Below.trod laidOut9 (by kernel_rfl) (of_decide_eq_true (by kernel_rfl)) k0 bel lt0) trodAll_mk0), rfl, bel.frame _, fun h => by cases h⟩

theorem over : Rows.codePutsRow.holds Tryd.pinned (OpenSpec.ofChange Rows.codePutsSpec) :=
  OpenClaim.holds_of_wide 3 Tryd.f3 rfl rfl rfl rfl rfl rfl rfl ⟨rfl, rfl, rfl, rfl, rfl⟩ rfl rfl rfl rfl rfl (by kernel_rfl) Tryd.func3 (by kernel_rfl)
    (of_decide_eq_true (by kernel_rfl)) (by unfold Func.isWrapper; first | (rw [if_pos (by decide +kernel)]; kernel_rfl) | (rw [if_neg (by decide +kernel)]; exact ⟨rfl, rfl⟩))
    (fun os started H enc _ => lifted os started H enc)

theorem proved : Rows.CodePutsCardSaid :=
  Claim7.holds_tied_plain_at .later [] [.data, .data, .data, .data] true (true, "19e9b0c65279d3d3fe7d7dcd55886fc2e804bea849dccd7f0254f23fa2434a49") false
    over (fun _ h => by cases h) (by kernel_rfl) (fun _ h => by cases h) codePuts_row_tie rfl ⟨rfl, rfl⟩ (by kernel_rfl) rfl
    (fun f fn hf hfn => by
      obtain rfl : f = 3 := Option.some.inj ((show Tryd.prog.funcNamed Rows.codePutsRow.func = some 3 by kernel_rfl).symm.trans hf) |>.symm
      obtain rfl : fn = Tryd.f3 := (Option.some.inj (Tryd.func3.symm.trans hfn)).symm
      exact ⟨by kernel_rfl, fun j t ht => by
        rw [Tryd.params3] at ht
        have hm : t ∈ [22] := by simpa using Array.mem_of_getElem? ht
        have hall : ([22].all fun u => !Tryd.prog.wantsStandIn u) = true := by kernel_rfl
        exact (show Tryd.prog.wantsStandIn t = false by simpa using List.all_eq_true.1 hall t hm)⟩)
    (by kernel_rfl)
end Go.Proofs.YtclndbiljhbbkaaDoor.codePuts

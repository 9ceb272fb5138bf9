/- The law CodeLeads of chapter 09 holds for every input: it returns true, and its arguments stay. The tables that the row lists are tied to the program's text. -/
import Derived.Test.YtclndbiljhbbkaaDoorRows
import Derived.Test.YtclndbiljhbbkaaDoorTie
import Derived.Test.YtclndbiljhbbkaaDoorCards
import Derived.Test.YtclndbiljhbbkaaDoorC5
import Derived.WalkKit
import Derived.ProofKit
import Derived.OpenShut
import Derived.ChangeOld
import Derived.Below
import Derived.SevenTiedAt
namespace Go.Proofs.YtclndbiljhbbkaaDoor.codeLeads
open Go.ChangeShapes Go.WideShapes Go.ChangeAt Go.RowKit
set_option linter.unusedVariables false
set_option linter.unusedSimpArgs false
theorem may_leads (op : Int) (h : op = 16 ∨ op = 17) {x y : Int} (hx : 0 ≤ x ∧ x ≤ 255) (hy : 0 ≤ y ∧ y ≤ 255) : mayB ⟨op, x, y⟩ = true := by
  have hu : usesV op = 2 := by unfold usesV; rw [if_pos (by omega)]
  have ho : ∀ z : Int, 0 ≤ z ∧ z ≤ 255 → operB z true = true := by
    intro z hz
    unfold operB
    by_cases h0 : z = 0
    · rw [h0]; rfl
    · rw [decide_eq_true (show 0 < z by omega), decide_eq_true hz.2]; simp
  unfold mayB
  dsimp only
  rw [hu, decide_eq_true (show 1 ≤ op by omega), decide_eq_true (show op ≤ 20 by omega), show decide ((0 : Int) < 2) = true from rfl, show decide ((1 : Int) < 2) = true from rfl, ho x hx, ho y hy]
  rfl

set_option maxRecDepth 100000 in
set_option maxHeartbeats 40000000 in
theorem walk (w : World) (hT : TabsB w) (a0 : Int) (r0_ : -9223372036854775808 ≤ a0 ∧ a0 ≤ 9223372036854775807) :
    Calls Tryd.prog 5 #[.int .i64 a0] w fun e w' => e = .returned (.bool true) ∧ Below w.heap.size w w' := by
  have HT := Lib.hid hT
  clear hT
  by_cases h0 : 0 ≤ a0
  · have d0 : decide (0 ≤ a0) = true := decide_eq_true h0
    by_cases h1 : a0 ≤ 400
    · have d1 : decide (a0 ≤ 400) = true := decide_eq_true h1
      have HN : Hid (leadsB 16 = true ∧ 0 ≤ a0 ∧ a0 ≤ 400) := Lib.hid ⟨rfl, h0, h1⟩
      have HN2 : Hid (leadsB 17 = true ∧ 0 ≤ a0 ∧ a0 ≤ 400) := Lib.hid ⟨rfl, h0, h1⟩
      have HV1 : Hid (toV 16 a0 = (⟨16, a0 % 256, a0 / 256⟩, 0)) := Lib.hid (to_yes HN.out)
      have HV2 : Hid (toV 17 a0 = (⟨17, a0 % 256, a0 / 256⟩, 0)) := Lib.hid (to_yes HN2.out)
      go_enter Tryd.func5, Tryd.ntmps5
      go_wp2_with fail
      (with_reducible refine (to_any 16 a0 _).mono ?_)
      rintro e w1 ⟨rfl, hb1⟩
      rw [HV1.out]
      dsimp only
      go_upto_region 2 with fail
      have hA1 := hb1.trans (((Below.refl w1.heap.size w1).alloc (Nat.le_refl _) (.cells #[.int .i64 16, .int .i64 (a0 % 256), .int .i64 (a0 / 256)] 31)).mono hb1.size)
      obtain ⟨w2, hw2⟩ : ∃ w2, w2 = w1.alloc (.cells #[.int .i64 16, .int .i64 (a0 % 256), .int .i64 (a0 / 256)] 31) := ⟨_, rfl⟩
      rw [← hw2] at hA1 ⊢
      obtain ⟨g1, hg1⟩ : ∃ g1, g1 = w1.heap.size := ⟨_, rfl⟩
      have z1 : g1 < w2.heap.size := by rw [hw2, hg1]; go_size
      have x0 : w2.cell? ⟨g1, 0, none⟩ = some (.int .i64 16) := by rw [hw2, hg1]; simp [go_sem]
      have x1 : w2.cell? ⟨g1, 1, none⟩ = some (.int .i64 (a0 % 256)) := by rw [hw2, hg1]; simp [go_sem]
      have x2 : w2.cell? ⟨g1, 2, none⟩ = some (.int .i64 (a0 / 256)) := by rw [hw2, hg1]; simp [go_sem]
      rw [← hg1]
      clear hw2 hg1 hb1
      go_wp2_with fail
      (with_reducible refine (to_any 17 a0 _).mono ?_)
      rintro e w3 ⟨rfl, hb3⟩
      rw [HV2.out]
      dsimp only
      go_upto_region 3 with fail
      have hB3 := hA1.trans (hb3.mono hA1.size)
      have hA3 := hb3.trans (((Below.refl w3.heap.size w3).alloc (Nat.le_refl _) (.cells #[.int .i64 17, .int .i64 (a0 % 256), .int .i64 (a0 / 256)] 31)).mono hb3.size)
      obtain ⟨w4, hw4⟩ : ∃ w4, w4 = w3.alloc (.cells #[.int .i64 17, .int .i64 (a0 % 256), .int .i64 (a0 / 256)] 31) := ⟨_, rfl⟩
      rw [← hw4] at hA3 ⊢
      obtain ⟨g2, hg2⟩ : ∃ g2, g2 = w3.heap.size := ⟨_, rfl⟩
      have z2 : g2 < w4.heap.size := by rw [hw4, hg2]; go_size
      have y0 : w4.cell? ⟨g2, 0, none⟩ = some (.int .i64 17) := by rw [hw4, hg2]; simp [go_sem]
      have y1 : w4.cell? ⟨g2, 1, none⟩ = some (.int .i64 (a0 % 256)) := by rw [hw4, hg2]; simp [go_sem]
      have y2 : w4.cell? ⟨g2, 2, none⟩ = some (.int .i64 (a0 / 256)) := by rw [hw4, hg2]; simp [go_sem]
      replace x0 := below_cell hA3 x0
      replace x1 := below_cell hA3 x1
      replace x2 := below_cell hA3 x2
      rw [← hg2]
      clear hw4 hg2 hb3
      have hB4 := hA1.trans (hA3.mono hA1.size)
      have HV3 : Hid (targetV ⟨16, a0 % 256, a0 / 256⟩ = a0) := Lib.hid (by unfold targetV; rw [if_pos (show leadsB _ = true from rfl)]; show a0 % 256 + a0 / 256 * 256 = a0; omega)
      have HV4 : Hid (targetV ⟨17, a0 % 256, a0 / 256⟩ = a0) := Lib.hid (by unfold targetV; rw [if_pos (show leadsB _ = true from rfl)]; show a0 % 256 + a0 / 256 * 256 = a0; omega)
      have HV5 : Hid (mayB ⟨16, a0 % 256, a0 / 256⟩ = true) := Lib.hid (may_leads 16 (by decide) (by omega) (by omega))
      have HV6 : Hid (mayB ⟨17, a0 % 256, a0 / 256⟩ = true) := Lib.hid (may_leads 17 (by decide) (by omega) (by omega))
      go_wp2_with fail
      (with_reducible refine (target_any 16 (a0 % 256) (a0 / 256) _ (by omega) (by omega) (by omega) (by omega)).mono ?_)
      rintro e w5 ⟨rfl, hb5⟩
      rw [HV3.out]
      have hB5 := hB4.trans (hb5.mono hB4.size)
      replace x0 := below_cell hb5 x0
      replace x1 := below_cell hb5 x1
      replace x2 := below_cell hb5 x2
      replace y0 := below_cell hb5 y0
      replace y1 := below_cell hb5 y1
      replace y2 := below_cell hb5 y2
      go_wp2_with fail
      (with_reducible refine (target_any 17 (a0 % 256) (a0 / 256) _ (by omega) (by omega) (by omega) (by omega)).mono ?_)
      rintro e w6 ⟨rfl, hb6⟩
      rw [HV4.out]
      have hB6 := hB5.trans (hb6.mono hB5.size)
      replace x0 := below_cell hb6 x0
      replace x1 := below_cell hb6 x1
      replace x2 := below_cell hb6 x2
      replace y0 := below_cell hb6 y0
      replace y1 := below_cell hb6 y1
      replace y2 := below_cell hb6 y2
      go_wp2_with fail
      (with_reducible refine (may_any 16 (a0 % 256) (a0 / 256) _).mono ?_)
      rintro e w7 ⟨rfl, hb7⟩
      rw [HV5.out]
      have hB7 := hB6.trans (hb7.mono hB6.size)
      replace x0 := below_cell hb7 x0
      replace x1 := below_cell hb7 x1
      replace x2 := below_cell hb7 x2
      replace y0 := below_cell hb7 y0
      replace y1 := below_cell hb7 y1
      replace y2 := below_cell hb7 y2
      go_wp2_with fail
      (with_reducible refine (may_any 17 (a0 % 256) (a0 / 256) _).mono ?_)
      rintro e w8 ⟨rfl, hb8⟩
      rw [HV6.out]
      have hB8 := hB7.trans (hb8.mono hB7.size)
      replace x0 := below_cell hb8 x0
      replace x1 := below_cell hb8 x1
      replace x2 := below_cell hb8 x2
      replace y0 := below_cell hb8 y0
      replace y1 := below_cell hb8 y1
      replace y2 := below_cell hb8 y2
      go_wp2_with fail
      (with_reducible refine (lives_any _ (HT.out.below hB8)).mono ?_)
      rintro e w9 ⟨rfl, hb9⟩
      go_wp2_with fail
      go_ret
      exact ⟨rfl, hB8.trans (hb9.mono hB8.size)⟩
    · have d1 : decide (a0 ≤ 400) = false := decide_eq_false h1
      have HN : Hid (¬ (leadsB 16 = true ∧ 0 ≤ a0 ∧ a0 ≤ 400)) := Lib.hid (fun q => h1 q.2.2)
      have HN2 : Hid (¬ (leadsB 17 = true ∧ 0 ≤ a0 ∧ a0 ≤ 400)) := Lib.hid (fun q => h1 q.2.2)
      have HV1 : Hid (toV 16 a0 = (⟨0, 0, 0⟩, 1)) := Lib.hid (to_no HN.out)
      have HV2 : Hid (toV 17 a0 = (⟨0, 0, 0⟩, 1)) := Lib.hid (to_no HN2.out)
      go_enter Tryd.func5, Tryd.ntmps5
      go_wp2_with fail
      (with_reducible refine (to_any 16 a0 _).mono ?_)
      rintro e w1 ⟨rfl, hb1⟩
      rw [HV1.out]
      dsimp only
      go_upto_region 2 with fail
      have hA1 := hb1.trans (((Below.refl w1.heap.size w1).alloc (Nat.le_refl _) (.cells #[.int .i64 0, .int .i64 0, .int .i64 0] 31)).mono hb1.size)
      obtain ⟨w2, hw2⟩ : ∃ w2, w2 = w1.alloc (.cells #[.int .i64 0, .int .i64 0, .int .i64 0] 31) := ⟨_, rfl⟩
      rw [← hw2] at hA1 ⊢
      obtain ⟨g1, hg1⟩ : ∃ g1, g1 = w1.heap.size := ⟨_, rfl⟩
      have z1 : g1 < w2.heap.size := by rw [hw2, hg1]; go_size
      have x0 : w2.cell? ⟨g1, 0, none⟩ = some (.int .i64 0) := by rw [hw2, hg1]; simp [go_sem]
      have x1 : w2.cell? ⟨g1, 1, none⟩ = some (.int .i64 0) := by rw [hw2, hg1]; simp [go_sem]
      have x2 : w2.cell? ⟨g1, 2, none⟩ = some (.int .i64 0) := by rw [hw2, hg1]; simp [go_sem]
      rw [← hg1]
      clear hw2 hg1 hb1
      go_wp2_with fail
      (with_reducible refine (to_any 17 a0 _).mono ?_)
      rintro e w3 ⟨rfl, hb3⟩
      rw [HV2.out]
      dsimp only
      go_upto_region 3 with fail
      have hB3 := hA1.trans (hb3.mono hA1.size)
      have hA3 := hb3.trans (((Below.refl w3.heap.size w3).alloc (Nat.le_refl _) (.cells #[.int .i64 0, .int .i64 0, .int .i64 0] 31)).mono hb3.size)
      obtain ⟨w4, hw4⟩ : ∃ w4, w4 = w3.alloc (.cells #[.int .i64 0, .int .i64 0, .int .i64 0] 31) := ⟨_, rfl⟩
      rw [← hw4] at hA3 ⊢
      obtain ⟨g2, hg2⟩ : ∃ g2, g2 = w3.heap.size := ⟨_, rfl⟩
      have z2 : g2 < w4.heap.size := by rw [hw4, hg2]; go_size
      have y0 : w4.cell? ⟨g2, 0, none⟩ = some (.int .i64 0) := by rw [hw4, hg2]; simp [go_sem]
      have y1 : w4.cell? ⟨g2, 1, none⟩ = some (.int .i64 0) := by rw [hw4, hg2]; simp [go_sem]
      have y2 : w4.cell? ⟨g2, 2, none⟩ = some (.int .i64 0) := by rw [hw4, hg2]; simp [go_sem]
      replace x0 := below_cell hA3 x0
      replace x1 := below_cell hA3 x1
      replace x2 := below_cell hA3 x2
      rw [← hg2]
      clear hw4 hg2 hb3
      have hB4 := hA1.trans (hA3.mono hA1.size)
      go_wp2_with fail
      (with_reducible refine (lives_any _ (HT.out.below hB4)).mono ?_)
      rintro e w9 ⟨rfl, hb9⟩
      go_wp2_with fail
      go_ret
      exact ⟨rfl, hB4.trans (hb9.mono hB4.size)⟩
  · have d0 : decide (0 ≤ a0) = false := decide_eq_false h0
    have HN : Hid (¬ (leadsB 16 = true ∧ 0 ≤ a0 ∧ a0 ≤ 400)) := Lib.hid (fun q => h0 q.2.1)
    have HN2 : Hid (¬ (leadsB 17 = true ∧ 0 ≤ a0 ∧ a0 ≤ 400)) := Lib.hid (fun q => h0 q.2.1)
    have HV1 : Hid (toV 16 a0 = (⟨0, 0, 0⟩, 1)) := Lib.hid (to_no HN.out)
    have HV2 : Hid (toV 17 a0 = (⟨0, 0, 0⟩, 1)) := Lib.hid (to_no HN2.out)
    go_enter Tryd.func5, Tryd.ntmps5
    go_wp2_with fail
    (with_reducible refine (to_any 16 a0 _).mono ?_)
    rintro e w1 ⟨rfl, hb1⟩
    rw [HV1.out]
    dsimp only
    go_upto_region 2 with fail
    have hA1 := hb1.trans (((Below.refl w1.heap.size w1).alloc (Nat.le_refl _) (.cells #[.int .i64 0, .int .i64 0, .int .i64 0] 31)).mono hb1.size)
    obtain ⟨w2, hw2⟩ : ∃ w2, w2 = w1.alloc (.cells #[.int .i64 0, .int .i64 0, .int .i64 0] 31) := ⟨_, rfl⟩
    rw [← hw2] at hA1 ⊢
    obtain ⟨g1, hg1⟩ : ∃ g1, g1 = w1.heap.size := ⟨_, rfl⟩
    have z1 : g1 < w2.heap.size := by rw [hw2, hg1]; go_size
    have x0 : w2.cell? ⟨g1, 0, none⟩ = some (.int .i64 0) := by rw [hw2, hg1]; simp [go_sem]
    have x1 : w2.cell? ⟨g1, 1, none⟩ = some (.int .i64 0) := by rw [hw2, hg1]; simp [go_sem]
    have x2 : w2.cell? ⟨g1, 2, none⟩ = some (.int .i64 0) := by rw [hw2, hg1]; simp [go_sem]
    rw [← hg1]
    clear hw2 hg1 hb1
    go_wp2_with fail
    (with_reducible refine (to_any 17 a0 _).mono ?_)
    rintro e w3 ⟨rfl, hb3⟩
    rw [HV2.out]
    dsimp only
    go_upto_region 3 with fail
    have hB3 := hA1.trans (hb3.mono hA1.size)
    have hA3 := hb3.trans (((Below.refl w3.heap.size w3).alloc (Nat.le_refl _) (.cells #[.int .i64 0, .int .i64 0, .int .i64 0] 31)).mono hb3.size)
    obtain ⟨w4, hw4⟩ : ∃ w4, w4 = w3.alloc (.cells #[.int .i64 0, .int .i64 0, .int .i64 0] 31) := ⟨_, rfl⟩
    rw [← hw4] at hA3 ⊢
    obtain ⟨g2, hg2⟩ : ∃ g2, g2 = w3.heap.size := ⟨_, rfl⟩
    have z2 : g2 < w4.heap.size := by rw [hw4, hg2]; go_size
    have y0 : w4.cell? ⟨g2, 0, none⟩ = some (.int .i64 0) := by rw [hw4, hg2]; simp [go_sem]
    have y1 : w4.cell? ⟨g2, 1, none⟩ = some (.int .i64 0) := by rw [hw4, hg2]; simp [go_sem]
    have y2 : w4.cell? ⟨g2, 2, none⟩ = some (.int .i64 0) := by rw [hw4, hg2]; simp [go_sem]
    replace x0 := below_cell hA3 x0
    replace x1 := below_cell hA3 x1
    replace x2 := below_cell hA3 x2
    rw [← hg2]
    clear hw4 hg2 hb3
    have hB4 := hA1.trans (hA3.mono hA1.size)
    go_wp2_with fail
    (with_reducible refine (lives_any _ (HT.out.below hB4)).mono ?_)
    rintro e w9 ⟨rfl, hb9⟩
    go_wp2_with fail
    go_ret
    exact ⟨rfl, hB4.trans (hb9.mono hB4.size)⟩


/-! ### the row's step -/
set_option maxRecDepth 100000 in
theorem lifted (os : Os) (started : os.Started) (H : Type) (enc : TypeId × Value → H) :
    ReturnsInHanded {} Tryd.checked os 5 .any (fun w args => (Rows.codeLeadsSpec.pre enc Tryd.prog Tryd.f5 [] false w args ∧ laidMetH Tryd.prog laid4 w) ∧ sizedMet enc Tryd.prog Tryd.f5 (OpenSpec.ofChange Rows.codeLeadsSpec) false w args) (Rows.codeLeadsSpec.post enc Tryd.prog Tryd.f5 false true false false) := by
  refine returnsInHanded_of_change_and (C := Tryd.checked) (X := fun w _ => laidMetH Tryd.prog laid4 w) (fun _ _ _ hh h => h.of_heap hh) own9 started (by kernel_rfl) Tryd.func5
    (ChangeSpec.witness_shaped (enc := enc) (C := Tryd.checked) (os := os) (X := fun w _ => laidMetH Tryd.prog laid4 w) false (World.doorLaid Tryd.prog 29 os) #[.int .i64 0] 8 rfl (World.shaped_of_RefB (by kernel_rfl) (by kernel_rfl)) (by kernel_rfl) (by kernel_rfl) (by kernel_rfl) (door_met os _)) ?_
  intro W base args ds gs before hval0 hW _ _ hL _
  have hval : ∀ (j : Nat) t v, Tryd.f5.params[j]? = some t → args[j]? = some v → Value.okWide Tryd.prog W .any base t v := hval0
  have hW' := hW
  obtain ⟨p, q, hA0, hV, rfl, hfz, hnd⟩ := hW
  have hA : DataW.TrodAll enc Tryd.prog W 0 (fun _ => true) true Tryd.f5.params.toList args.toList ds p := hA0
  rw [Tryd.params5] at hA hval
  obtain ⟨v0, vs0, d0, ds0, p0, q0, hargs, rfl, rfl, h0, r0⟩ := trodAll_cons hA
  obtain ⟨rfl, rfl, rfl⟩ := trodAll_nil r0
  obtain rfl : args = #[v0] := by cases args; simp_all
  obtain ⟨rfl, rfl⟩ := trodVars_none hV
  obtain ⟨a0, rfl, rfl, rfl, w0⟩ := open_int Tryd.underlying3 (hval 0 3 v0 rfl rfl) h0
  clear hA0 hval0
  refine (walk W (tabs_of_laid hL) _ (bounds9 w0)).mono fun e W' ⟨he, bel⟩ => ?_
  subst he
  exact ⟨_, rfl, _, _, _, [], _, [], hW', trodAll_mk1 (shut_bool Tryd.underlying4 _), (trodAll_cons_mk (shut_int Tryd.underlying3 w0) trodAll_mk0), rfl, bel.frame _, fun h => by cases h⟩

theorem over : Rows.codeLeadsRow.holds Tryd.pinned (OpenSpec.ofChange Rows.codeLeadsSpec) :=
  OpenClaim.holds_of_wide 5 Tryd.f5 rfl rfl rfl rfl rfl rfl rfl ⟨rfl, rfl, rfl, rfl, rfl⟩ rfl rfl rfl rfl rfl (by kernel_rfl) Tryd.func5 (by kernel_rfl)
    (of_decide_eq_true (by kernel_rfl)) (by unfold Func.isWrapper; first | (rw [if_pos (by decide +kernel)]; kernel_rfl) | (rw [if_neg (by decide +kernel)]; exact ⟨rfl, rfl⟩))
    (fun os started H enc _ => lifted os started H enc)

theorem proved : Rows.CodeLeadsCardSaid :=
  Claim7.holds_tied_plain_at .later [] [.data, .data, .data, .data] true (true, "19e9b0c65279d3d3fe7d7dcd55886fc2e804bea849dccd7f0254f23fa2434a49") false
    over (fun _ h => by cases h) (by kernel_rfl) (fun _ h => by cases h) codeLeads_row_tie rfl ⟨rfl, rfl⟩ (by kernel_rfl) rfl
    (fun f fn hf hfn => by
      obtain rfl : f = 5 := Option.some.inj ((show Tryd.prog.funcNamed Rows.codeLeadsRow.func = some 5 by kernel_rfl).symm.trans hf) |>.symm
      obtain rfl : fn = Tryd.f5 := (Option.some.inj (Tryd.func5.symm.trans hfn)).symm
      exact ⟨by kernel_rfl, fun j t ht => by
        rw [Tryd.params5] at ht
        have hm : t ∈ [3] := by simpa using Array.mem_of_getElem? ht
        have hall : ([3].all fun u => !Tryd.prog.wantsStandIn u) = true := by kernel_rfl
        exact (show Tryd.prog.wantsStandIn t = false by simpa using List.all_eq_true.1 hall t hm)⟩)
    (by kernel_rfl)
end Go.Proofs.YtclndbiljhbbkaaDoor.codeLeads

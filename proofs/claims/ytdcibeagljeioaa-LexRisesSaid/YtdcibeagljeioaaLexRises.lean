/- The law LexRises of chapter 06 holds for every input: it returns true, and its arguments stay. No conditions. -/
import Derived.Test.YtdcibeagljeioaaRows
import Derived.Test.YtdcibeagljeioaaS4
import Derived.WalkKit
import Derived.ProofKit
import Derived.OpenShut
import Derived.ShutString
import Derived.ChangeOld
import Derived.ChangeMaps5
import Derived.Below
namespace Go.Proofs.Ytdcibeagljeioaa.lexRises
open Go.ChangeShapes Go.WideShapes Go.ChangeAt Go.RowKit
set_option linter.unusedVariables false
set_option linter.unusedSimpArgs false

theorem own : ownKnob Try.prog.godebug = none := by kernel_rfl
theorem laidOut : laidOutB Try.prog = true := by kernel_rfl

set_option maxRecDepth 100000 in
set_option maxHeartbeats 40000000 in
theorem walk (w : World) (s0 : ByteArray) (z0 : s0.size ≤ 9223372036854775807) :
    Calls Try.prog 6 #[.string s0] w fun e w' => e = .returned (.bool true) ∧ Below w.heap.size w w' := by
  have zf := few_le s0
  obtain ⟨s, hs⟩ : ∃ s, fewB s0 = s := ⟨_, rfl⟩
  have HS := Lib.hid hs
  rw [hs] at zf
  clear hs
  have FEW := few_any s0 w z0
  rw [HS.out] at FEW
  cases hT : toksV s.data.toList with
  | err a x =>
    have hx0 := toks_err0 _ _ _ _ _ hT (Nat.lt_succ_self _)
    have n1 : (x == 0) = false := by simpa using hx0
    have n2 : (x != 0) = true := by simpa using hx0
    have HT := Lib.hid hT
    clear hT hx0
    go_enter Try.func6, Try.ntmps6
    go_wp2_with fail
    (with_reducible refine FEW.mono ?_)
    rintro e w' ⟨rfl, hw'⟩
    replace hw' := hw'.symm
    subst hw'
    clear FEW
    go_wp2_with fail
    (with_reducible refine (toks_err _ HT.out (by omega)).mono ?_)
    rintro e w1 ⟨rfl, hb1⟩
    have h1 := hb1.size
    go_wp2_with (go_at_call 13; (with_reducible refine (lives_any _).mono ?_); rintro e w4 ⟨rfl, hb4⟩)
    go_ret
    exact ⟨rfl, hb1.trans (hb4.mono h1)⟩
  | ok A =>
    obtain ⟨⟨a0, r0, hA0, hat0, hop⟩, hmid, hlk, hla⟩ := rise _ _ _ _ hT (Nat.lt_succ_self _)
    obtain ⟨q, hq⟩ : ∃ q, A.length = q + 1 := ⟨r0.length, by rw [hA0]; rfl⟩
    have hl := toks_len _ _ _ _ hT
    have hsz : s.data.toList.length = s.size := rfl
    have hqb : q ≤ 100000 := by omega
    rw [hq, Nat.add_sub_cancel] at hlk hla
    rw [Nat.zero_add, hsz] at hla
    obtain ⟨k0, hk0⟩ : ∃ k0, (skipV s.data.toList).1 = k0 := ⟨_, rfl⟩
    have hsk : skipV s.data.toList = (k0, false) := by rw [← hk0, ← hop]
    have hfirst : (A.getD 0 tz).at_ = k0 := by rw [hA0]; show a0.at_ = k0; rw [hat0, hk0]; omega
    have HT := Lib.hid hT
    have HQ := Lib.hid hq
    have HMID := Lib.hid hmid
    have HLK := Lib.hid hlk
    have HLA := Lib.hid hla
    have HSK := Lib.hid hsk
    have HF := Lib.hid hfirst
    clear hT hq hmid hlk hla hA0 hat0 hop hl hsz hk0 hsk hfirst
    go_enter Try.func6, Try.ntmps6
    go_wp2_with fail
    (with_reducible refine FEW.mono ?_)
    rintro e w' ⟨rfl, hw'⟩
    replace hw' := hw'.symm
    subst hw'
    clear FEW
    go_wp2_with fail
    (with_reducible refine (toks_ok _ HT.out HQ.out (by omega)).mono ?_)
    rintro e w1 ⟨g, c, rfl, hc1, hc2, hwg, hg, hrow, hb1⟩
    have h1 := hb1.size
    have HR := Lib.hid hrow
    obtain ⟨l0, _, _, l3⟩ := okrow hrow hg (Nat.lt_succ_self q) (Below.refl _ _)
    rw [HLK.out] at l0
    rw [HLA.out] at l3
    clear hrow
    have b1 : (0 : Int) ≤ (q : Int) := by omega
    have b2 : (q : Int) < (q : Int) + 1 := by omega
    go_wp2_with fail
    clear l0 l3 b1 b2
    go_loopw [6] (fun i wr => ∃ k : Nat, k ≤ q ∧ i = .int .i64 k ∧ Inv w w w1 wr) (fun i _ => q - (intOf i).toNat)
    case atStart => exact ⟨0, Nat.zero_le _, rfl, Inv.start (Below.refl _ _) hb1⟩
    case round =>
      obtain ⟨k, hk, rfl, hI⟩ := hrel
      by_cases hlt : k < q
      · have hm := HMID.out k (by have := HQ.out; omega)
        obtain ⟨c0, _, _, c3⟩ := okrow HR.out hg (show k < q + 1 by omega) hI.bW
        obtain ⟨_, _, _, d3⟩ := okrow HR.out hg (show k + 1 < q + 1 by omega) hI.bW
        obtain ⟨t, ht⟩ : ∃ t, A.getD k tz = t := ⟨_, rfl⟩
        obtain ⟨u, hu⟩ : ∃ u, A.getD (k + 1) tz = u := ⟨_, rfl⟩
        rw [ht] at hm c0 c3
        rw [hu] at hm d3
        obtain ⟨m1, m2⟩ := hm
        have n1 : (t.kind == 0) = false := by simpa using m1
        have n2 : decide (u.at_ ≤ t.at_) = false := decide_eq_false (by omega)
        have n3 : decide ((u.at_ : Int) ≤ (t.at_ : Int)) = false := decide_eq_false (by omega)
        have b1 : (0 : Int) ≤ (k : Int) := by omega
        have b2 : (k : Int) < (q : Int) + 1 := by omega
        have b3 : (k : Int) + 1 < (q : Int) + 1 := by omega
        have b4 : (0 : Int) ≤ (k : Int) + 1 := by omega
        have b5 : ((k : Int) + 1).toNat = k + 1 := by omega
        have b6 : IntKind.i64.wrap ((k : Int) + 1) = (k : Int) + 1 := IntWalk.i64_in _ (by omega)
        have d1 : decide (k + 1 < q + 1) = true := decide_eq_true (by omega)
        have d2 : decide ((k : Int) + 1 < (q : Int) + 1) = true := decide_eq_true b3
        have dk : decide (k < q) = true := decide_eq_true hlt
        clear ht hu m1 m2
        go_wp2_with fail
        go_quiet (fail)
        go_wp2_with fail
        go_roundw
        case rel => exact ⟨k + 1, by omega, by go_num, hI.go (by (repeat' (first | (with_reducible exact Below.refl _ _) | (with_reducible assumption) | (with_reducible refine below_drewN ?_ _) | (with_reducible refine Below.alloc ?_ ?_ _) | (with_reducible refine Below.drew ?_) | (with_reducible refine Below.setCell ?_ ?_ _) | go_size)))⟩
        case measure => simp [intOf]; omega
      · have hkq : k = q := by omega
        subst hkq
        obtain ⟨_, _, _, f3⟩ := okrow HR.out hg (show 0 < k + 1 by omega) hI.bW
        rw [HF.out] at f3
        simp only [Nat.zero_mul, Nat.zero_add] at f3
        have d1 : decide (k + 1 < k + 1) = false := decide_eq_false (by omega)
        have d2 : decide ((k : Int) + 1 < (k : Int) + 1) = false := decide_eq_false (by omega)
        have b2 : (0 : Int) < (k : Int) + 1 := by omega
        have hB := hI.bw
        have hBs := hB.size
        go_wp2_with (first | (go_at_call 14; (with_reducible refine (rskip0 s _ (by omega) HSK.out).mono ?_); rintro e w' ⟨rfl, hw'⟩; replace hw' := hw'.symm; subst hw') | (go_at_call 13; (with_reducible refine (lives_any _).mono ?_); rintro e w4 ⟨rfl, hb4⟩))
        go_ret
        exact ⟨rfl, hB.trans (hb4.mono hBs)⟩

/-! ### the row's step -/
set_option maxRecDepth 100000 in
theorem lifted (os : Os) (started : os.Started) (H : Type) (enc : TypeId × Value → H) :
    ReturnsInHanded {} Try.checked os 6 .any (Rows.lexRisesSpec.pre6 enc Try.prog Try.f6 Rows.lexRisesRow.domain false) (Rows.lexRisesSpec.post enc Try.prog Try.f6 false true false false) := by
  refine returnsInHanded_of_change (C := Try.checked) own started (by kernel_rfl) Try.func6
    (ChangeSpec.witness6 (enc := enc) (C := Try.checked) false ⟨#[], #[.string ⟨#[]⟩], []⟩ 8 (by kernel_rfl) (by kernel_rfl) (by kernel_rfl) (by kernel_rfl)) ?_
  intro W base args ds gs before hval0 hW hcnd _
  have hval : ∀ (j : Nat) t v, Try.f6.params[j]? = some t → args[j]? = some v → Value.okWide Try.prog W .any base t v := hval0
  have hW' := hW
  obtain ⟨p, q, hA0, hV, rfl, hfz, hnd⟩ := hW
  have hA : DataW.TrodAll enc Try.prog W 0 (fun _ => true) true Try.f6.params.toList args.toList ds p := hA0
  rw [Try.params6] at hA hval
  obtain ⟨v0, vs0, d0, ds0, p0, q0, hargs, rfl, rfl, h0, r0⟩ := trodAll_cons hA
  obtain ⟨rfl, rfl, rfl⟩ := trodAll_nil r0
  obtain rfl : args = #[v0] := by cases args; simp_all
  obtain ⟨rfl, rfl⟩ := trodVars_none hV
  obtain ⟨s0, rfl, rfl, rfl, z0⟩ := Go.ChangeMaps.open_string Try.underlying9 (hval 0 9 v0 rfl rfl) h0
  clear hA0 hval0
  refine (walk W _ (by have := z0; unfold maxLen at this; exact this)).mono fun e W' ⟨he, bel⟩ => ?_
  subst he
  exact ⟨_, rfl, _, _, _, [], _, [], hW', trodAll_mk1 (shut_bool Try.underlying4 _), (trodAll_cons_mk (Go.ChangeMaps.shut_string Try.underlying9 z0) trodAll_mk0), rfl, bel.frame _, fun h => by cases h⟩

theorem over : Rows.lexRisesRow.holds Try.pinned (OpenSpec.ofChange Rows.lexRisesSpec) :=
  OpenClaim.holds_of_wide 6 Try.f6 rfl rfl rfl rfl rfl rfl rfl ⟨rfl, rfl, rfl, rfl, rfl⟩ rfl rfl rfl rfl rfl (by kernel_rfl) Try.func6 (by kernel_rfl)
    (of_decide_eq_true (by kernel_rfl)) (by unfold Func.isWrapper; first | (rw [if_pos (by decide +kernel)]; kernel_rfl) | (rw [if_neg (by decide +kernel)]; exact ⟨rfl, rfl⟩))
    (fun os started H enc _ => lifted os started H enc)

theorem proved : Rows.LexRisesSaid := over
end Go.Proofs.Ytdcibeagljeioaa.lexRises

/- The law LexSpaced of chapter 06 holds for every input: it returns true, and its arguments stay. No conditions. -/
import Derived.Test.YtdcibeagljeioaaRows
import Derived.Test.YtdcibeagljeioaaS6
import Derived.WalkKit
import Derived.ProofKit
import Derived.OpenShut
import Derived.ShutString
import Derived.ChangeOld
import Derived.ChangeMaps5
import Derived.LoopN
import Derived.WalkMore
import Derived.Deep.DeepCutAuto
import Derived.Deep.CutRange
import Derived.Laws.BytesArg
import Derived.Laws.IdiomStrings
import Derived.Below
namespace Go.Proofs.Ytdcibeagljeioaa.lexSpaced
open Go.ChangeShapes Go.WideShapes Go.ChangeAt Go.RowKit
set_option linter.unusedVariables false
set_option linter.unusedSimpArgs false

theorem own : ownKnob Try.prog.godebug = none := by kernel_rfl
theorem laidOut : laidOutB Try.prog = true := by kernel_rfl

set_option maxRecDepth 100000 in
set_option maxHeartbeats 40000000 in
theorem walk (w : World) (s0 : ByteArray) (z0 : s0.size ≤ 9223372036854775807) :
    Calls Try.prog 7 #[.string s0] w fun e w' => e = .returned (.bool true) ∧ Below w.heap.size w w' := by
  go_enter Try.func7, Try.ntmps7
  go_upto_if 14 with (fail)
  go_cut [0] (fun v wx => v = .string (cutB 300 s0) ∧ wx = w)
  case first =>
    by_cases h : 300 < s0.size
    · have F : Hid (cutB 300 s0 = s0.extract 0 300) := if_pos h
      have d : decide (300 < s0.size) = true := decide_eq_true h
      have d' : decide ((300 : Int) < (s0.size : Int)) = true := decide_eq_true (by omega)
      have b : (300 : Int) ≤ (s0.size : Int) := by omega
      have b' : 300 ≤ s0.size := by omega
      go_wp2
      go_meet
      exact ⟨by rw [F.out], rfl⟩
    · have F : Hid (cutB 300 s0 = s0) := if_neg h
      have d : decide (300 < s0.size) = false := decide_eq_false h
      have d' : decide ((300 : Int) < (s0.size : Int)) = false := decide_eq_false (by omega)
      go_wp2
      go_meet
      exact ⟨by rw [F.out], rfl⟩
  obtain ⟨rfl, hwx⟩ := hcut
  replace hwx := hwx.symm
  subst hwx
  have zf := cut_le 300 s0
  obtain ⟨s, hs⟩ : ∃ s, cutB 300 s0 = s := ⟨_, rfl⟩
  rw [hs] at zf ⊢
  clear hs
  cases hT : toksV s.data.toList with
  | err a x =>
    have hx0 := toks_err0 _ _ _ _ _ hT (Nat.lt_succ_self _)
    have n1 : (x == 0) = false := by simpa using hx0
    have n2 : (x != 0) = true := by simpa using hx0
    have HT := Lib.hid hT
    clear hT hx0
    go_wp2_with fail
    (with_reducible refine (toks_err _ HT.out (by omega)).mono ?_)
    rintro e w1 ⟨rfl, hb1⟩
    have h1 := hb1.size
    go_wp2_with (go_at_call 13; (with_reducible refine (lives_any _).mono ?_); rintro e w4 ⟨rfl, hb4⟩)
    go_ret
    exact ⟨rfl, hb1.trans (hb4.mono h1)⟩
  | ok A =>
    obtain ⟨⟨a0, r0, hA0, _⟩, hmid, _, hla⟩ := rise _ _ _ _ hT (Nat.lt_succ_self _)
    have hat := toks_at _ _ _ _ hT (Nat.lt_succ_self _)
    obtain ⟨B, hTB, hBl, hBs⟩ := spaced0 hT
    obtain ⟨q, hq⟩ : ∃ q, A.length = q + 1 := ⟨r0.length, by rw [hA0]; rfl⟩
    have hl := toks_len _ _ _ _ hT
    have hsz : s.data.toList.length = s.size := rfl
    have hqb : q ≤ 300 := by omega
    rw [hq] at hBl
    have HT := Lib.hid hT
    have HQ := Lib.hid hq
    have HMID := Lib.hid hmid
    have HAT := Lib.hid hat
    have HTB := Lib.hid hTB
    have HBL := Lib.hid hBl
    have HBS := Lib.hid hBs
    clear hT hq hmid hla hA0 hl hat hTB hBl hBs
    go_wp2_with fail
    (with_reducible refine (toks_ok _ HT.out HQ.out (by omega)).mono ?_)
    rintro e w1 ⟨g, c, rfl, hc1, hc2, hwg, hg, hrow, hb1⟩
    have h1 := hb1.size
    have HR := Lib.hid hrow
    clear hrow
    go_wp2_with fail
    go_loopw [6, 7] (fun o i wr => ∃ (k : Nat) (O : ByteArray), k ≤ q ∧ i = .int .i64 k ∧ o = .string O ∧ O.size ≤ (A.getD k tz).at_ + k ∧ spA s.data.toList A = O.data.toList ++ spA s.data.toList (A.drop k) ∧ Inv w w w1 wr) (fun _ i _ => q - (intOf i).toNat)
    case atStart => exact ⟨0, ⟨#[]⟩, Nat.zero_le _, rfl, rfl, Nat.zero_le _, rfl, Inv.start (Below.refl _ _) hb1⟩
    case round =>
      obtain ⟨k, O, hk, rfl, rfl, hO, hsp, hI⟩ := hrel
      have HSP := Lib.hid hsp
      clear hsp
      have hk2 := HAT.out k (by have := HQ.out; omega)
      by_cases hlt : k < q
      · have hm := (HMID.out k (by have := HQ.out; omega)).2
        have hu2 := HAT.out (k + 1) (by have := HQ.out; omega)
        have HST := Lib.hid (spA_step s.data.toList (A := A) (k := k) (by have := HQ.out; omega))
        obtain ⟨_, _, _, c3⟩ := okrow HR.out hg (show k < q + 1 by omega) hI.bW
        obtain ⟨_, _, _, d3⟩ := okrow HR.out hg (show k + 1 < q + 1 by omega) hI.bW
        have HU : Hid ((A.getD (k + 1) tz).at_ = (A.getD (k + 1) tz).at_) := rfl
        obtain ⟨t, ht⟩ : ∃ t, (A.getD k tz).at_ = t := ⟨_, rfl⟩
        obtain ⟨u, hu⟩ : ∃ u, (A.getD (k + 1) tz).at_ = u := ⟨_, rfl⟩
        rw [ht] at hm c3 hk2 hO HST
        rw [hu] at hm d3 hu2 HST
        have HUU := Lib.hid hu
        have n2 : decide (u < t) = false := decide_eq_false (by omega)
        have n3 : decide ((u : Int) < (t : Int)) = false := decide_eq_false (by omega)
        have n4 : decide (s.size < u) = false := decide_eq_false (by omega)
        have n5 : decide ((s.size : Int) < (u : Int)) = false := decide_eq_false (by omega)
        have b1 : (0 : Int) ≤ (k : Int) := by omega
        have b2 : (k : Int) < (q : Int) + 1 := by omega
        have b3 : (k : Int) + 1 < (q : Int) + 1 := by omega
        have b4 : (0 : Int) ≤ (k : Int) + 1 := by omega
        have b5 : ((k : Int) + 1).toNat = k + 1 := by omega
        have b6 : IntKind.i64.wrap ((k : Int) + 1) = (k : Int) + 1 := IntWalk.i64_in _ (by omega)
        have d1 : decide (k + 1 < q + 1) = true := decide_eq_true (by omega)
        have d2 : decide ((k : Int) + 1 < (q : Int) + 1) = true := decide_eq_true b3
        have dk : decide (k < q) = true := decide_eq_true hlt
        have m1 : (t : Int) ≤ (u : Int) := by omega
        have m2 : (u : Int) ≤ (s.size : Int) := by omega
        have m3 : t ≤ u := by omega
        have m4 : u ≤ s.size := by omega
        have m5 : (0 : Int) ≤ (t : Int) := by omega
        have m6 : (0 : Int) ≤ (u : Int) := by omega
        have hx := ext_list s t (u - t)
        have hxz := size_ext s t (u - t) (by omega)
        rw [show t + (u - t) = u by omega] at hx hxz
        obtain ⟨T, hTT⟩ : ∃ T, s.extract t u = T := ⟨_, rfl⟩
        rw [hTT] at hx hxz
        have HX := Lib.hid hx
        have HXZ := Lib.hid hxz
        have hz1 : O.size + T.size ≤ 100000 := by omega
        have hz2 : (O ++ T).size + (⟨#[32]⟩ : ByteArray).size ≤ 100000 := by have : (⟨#[32]⟩ : ByteArray).size = 1 := rfl; simp; omega
        have hz3 : O.size + T.size + 1 ≤ 100000 := by omega
        clear ht hu hx hxz
        go_wp2_with fail
        go_quiet (fail)
        go_wp2_with fail
        go_quiet (fail)
        go_wp2_with fail
        go_roundw
        case rel =>
          refine ⟨k + 1, _, by omega, by go_num, rfl, ?_, ?_, hI.go (by (repeat' (first | (with_reducible exact Below.refl _ _) | (with_reducible assumption) | (with_reducible refine below_drewN ?_ _) | (with_reducible refine Below.alloc ?_ ?_ _) | (with_reducible refine Below.drew ?_) | (with_reducible refine Below.setCell ?_ ?_ _) | go_size)))⟩
          · rw [HUU.out]
            have h5 : (⟨#[32]⟩ : ByteArray).size = 1 := rfl
            have h6 := HXZ.out
            simp; omega
          · rw [HSP.out, HST.out, app_list, app_list, HX.out]
            simp
        case measure => simp [intOf]; omega
      · have hkq : k = q := by omega
        subst hkq
        have d1 : decide (k + 1 < k + 1) = false := decide_eq_false (by omega)
        have d2 : decide ((k : Int) + 1 < (k : Int) + 1) = false := decide_eq_false (by omega)
        have hB := hI.bw
        have hBW := hI.bW
        have hBs := hBW.size
        have hOs : O.size ≤ 2000 := by omega
        have hOT : toksV O.data.toList = .ok B := by
          have h7 := HTB.out
          rw [HSP.out, spA_last _ HQ.out, List.append_nil] at h7
          exact h7
        have HOT := Lib.hid hOT
        have HOS := Lib.hid hOs
        clear hlt hO hk hOT
        have HR1 := Lib.hid (HR.out.below hBW)
        have hg1 : g < wr.heap.size := by omega
        go_wp2_with fail
        (with_reducible refine (toks_ok _ HOT.out HBL.out HOS.out).mono ?_)
        rintro e w2 ⟨g2, c2, rfl, _, _, _, hg2, hr2, hb2⟩
        have h2 := hb2.size
        have H2 := Lib.hid hr2
        have H1 := Lib.hid (HR1.out.below hb2)
        have hg1' : g < w2.heap.size := by omega
        have hBw := hB.trans (hb2.mono hB.size)
        clear hr2 HR1 d1 d2 hI
        go_wp2_with fail
        go_loopw [11] (fun i wx => ∃ j : Nat, j ≤ k + 1 ∧ i = .int .i64 j ∧ Inv w w w2 wx) (fun i _ => k + 1 - (intOf i).toNat)
        case atStart => exact ⟨0, Nat.zero_le _, rfl, Inv.start (Below.refl _ _) hBw⟩
        case round =>
          obtain ⟨j, hj, rfl, hI⟩ := hrel
          by_cases hlt : j < k + 1
          · have dj : decide (j < k + 1) = true := decide_eq_true hlt
            have dj' : decide ((j : Int) < (k : Int) + 1) = true := decide_eq_true (by omega)
            have hIs := hI.bW.size
            obtain ⟨c0, c1', c2', _⟩ := okrow H1.out hg1' hlt hI.bW
            obtain ⟨e0, e1', e2', _⟩ := okrow H2.out hg2 hlt hI.bW
            have hsame := HBS.out j
            unfold same3 at hsame
            obtain ⟨s1, s2⟩ := Prod.mk.inj hsame
            obtain ⟨s2, s3⟩ := Prod.mk.inj s2
            rw [s1] at e0
            rw [s2] at e1'
            rw [s3] at e2'
            obtain ⟨t, ht⟩ : ∃ t, A.getD j tz = t := ⟨_, rfl⟩
            rw [ht] at c0 c1' c2' e0 e1' e2'
            have b1 : (0 : Int) ≤ (j : Int) := by omega
            have b2 : (j : Int) < (k : Int) + 1 := by omega
            clear ht hsame s1 s2 s3
            go_wp2_with fail
            go_quiet (fail)
            go_wp2_with fail
            go_roundw
            case rel => exact ⟨j + 1, by omega, by go_num, hI.go (by (repeat' (first | (with_reducible exact Below.refl _ _) | (with_reducible assumption) | (with_reducible refine below_drewN ?_ _) | (with_reducible refine Below.alloc ?_ ?_ _) | (with_reducible refine Below.drew ?_) | (with_reducible refine Below.setCell ?_ ?_ _) | go_size)))⟩
            case measure => simp [intOf]; omega
          · have hjn : j = k + 1 := by omega
            have dj : decide (j < k + 1) = false := decide_eq_false hlt
            have dj' : decide ((j : Int) < (k : Int) + 1) = false := decide_eq_false (by omega)
            have hB' := hI.bw
            have hBs' := hB'.size
            clear hlt
            go_wp2_with (go_at_call 13; (with_reducible refine (lives_any _).mono ?_); rintro e w4 ⟨rfl, hb4⟩)
            go_ret
            exact ⟨rfl, hB'.trans (hb4.mono hBs')⟩

/-! ### the row's step -/
set_option maxRecDepth 100000 in
theorem lifted (os : Os) (started : os.Started) (H : Type) (enc : TypeId × Value → H) :
    ReturnsInHanded {} Try.checked os 7 .any (Rows.lexSpacedSpec.pre6 enc Try.prog Try.f7 Rows.lexSpacedRow.domain false) (Rows.lexSpacedSpec.post enc Try.prog Try.f7 false true false false) := by
  refine returnsInHanded_of_change (C := Try.checked) own started (by kernel_rfl) Try.func7
    (ChangeSpec.witness6 (enc := enc) (C := Try.checked) false ⟨#[], #[.string ⟨#[]⟩], []⟩ 8 (by kernel_rfl) (by kernel_rfl) (by kernel_rfl) (by kernel_rfl)) ?_
  intro W base args ds gs before hval0 hW hcnd _
  have hval : ∀ (j : Nat) t v, Try.f7.params[j]? = some t → args[j]? = some v → Value.okWide Try.prog W .any base t v := hval0
  have hW' := hW
  obtain ⟨p, q, hA0, hV, rfl, hfz, hnd⟩ := hW
  have hA : DataW.TrodAll enc Try.prog W 0 (fun _ => true) true Try.f7.params.toList args.toList ds p := hA0
  rw [Try.params7] at hA hval
  obtain ⟨v0, vs0, d0, ds0, p0, q0, hargs, rfl, rfl, h0, r0⟩ := trodAll_cons hA
  obtain ⟨rfl, rfl, rfl⟩ := trodAll_nil r0
  obtain rfl : args = #[v0] := by cases args; simp_all
  obtain ⟨rfl, rfl⟩ := trodVars_none hV
  obtain ⟨s0, rfl, rfl, rfl, z0⟩ := Go.ChangeMaps.open_string Try.underlying9 (hval 0 9 v0 rfl rfl) h0
  clear hA0 hval0
  refine (walk W _ (by have := z0; unfold maxLen at this; exact this)).mono fun e W' ⟨he, bel⟩ => ?_
  subst he
  exact ⟨_, rfl, _, _, _, [], _, [], hW', trodAll_mk1 (shut_bool Try.underlying4 _), (trodAll_cons_mk (Go.ChangeMaps.shut_string Try.underlying9 z0) trodAll_mk0), rfl, bel.frame _, fun h => by cases h⟩

theorem over : Rows.lexSpacedRow.holds Try.pinned (OpenSpec.ofChange Rows.lexSpacedSpec) :=
  OpenClaim.holds_of_wide 7 Try.f7 rfl rfl rfl rfl rfl rfl rfl ⟨rfl, rfl, rfl, rfl, rfl⟩ rfl rfl rfl rfl rfl (by kernel_rfl) Try.func7 (by kernel_rfl)
    (of_decide_eq_true (by kernel_rfl)) (by unfold Func.isWrapper; first | (rw [if_pos (by decide +kernel)]; kernel_rfl) | (rw [if_neg (by decide +kernel)]; exact ⟨rfl, rfl⟩))
    (fun os started H enc _ => lifted os started H enc)

theorem proved : Rows.LexSpacedSaid := over
end Go.Proofs.Ytdcibeagljeioaa.lexSpaced

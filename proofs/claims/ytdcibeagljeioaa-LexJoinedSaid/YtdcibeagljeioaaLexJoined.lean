/- The law LexJoined of chapter 06 holds for every input: it returns true, and its arguments stay. No conditions. -/
import Derived.Test.YtdcibeagljeioaaRows
import Derived.Test.YtdcibeagljeioaaS6
import Derived.WalkKit
import Derived.ProofKit
import Derived.OpenShut
import Derived.ShutString
import Derived.ChangeOld
import Derived.ChangeMaps5
import Derived.LoopN
import Derived.WalkMore
import Derived.Deep.DeepCutAuto
import Derived.Deep.CutRange
import Derived.Laws.BytesArg
import Derived.Laws.IdiomStrings
import Derived.Below
namespace Go.Proofs.Ytdcibeagljeioaa.lexJoined
open Go.ChangeShapes Go.WideShapes Go.ChangeAt Go.RowKit
set_option linter.unusedVariables false
set_option linter.unusedSimpArgs false

theorem own : ownKnob Try.prog.godebug = none := by kernel_rfl
theorem laidOut : laidOutB Try.prog = true := by kernel_rfl

set_option maxRecDepth 100000 in
set_option maxHeartbeats 40000000 in
theorem walk (w : World) (s0 : ByteArray) (z0 : s0.size ≤ 9223372036854775807) (s1 : ByteArray) (z1 : s1.size ≤ 9223372036854775807) :
    Calls Try.prog 8 #[.string s0, .string s1] w fun e w' => e = .returned (.bool true) ∧ Below w.heap.size w w' := by
  go_enter Try.func8, Try.ntmps8
  go_upto_if 18 with (fail)
  go_cut [0] (fun v wx => v = .string (cutB 200 s0) ∧ wx = w)
  case first =>
    by_cases h : 200 < s0.size
    · have F : Hid (cutB 200 s0 = s0.extract 0 200) := if_pos h
      have d : decide (200 < s0.size) = true := decide_eq_true h
      have d' : decide ((200 : Int) < (s0.size : Int)) = true := decide_eq_true (by omega)
      have b : (200 : Int) ≤ (s0.size : Int) := by omega
      have b' : 200 ≤ s0.size := by omega
      go_wp2
      go_meet
      exact ⟨by rw [F.out], rfl⟩
    · have F : Hid (cutB 200 s0 = s0) := if_neg h
      have d : decide (200 < s0.size) = false := decide_eq_false h
      have d' : decide ((200 : Int) < (s0.size : Int)) = false := decide_eq_false (by omega)
      go_wp2
      go_meet
      exact ⟨by rw [F.out], rfl⟩
  obtain ⟨rfl, hwx⟩ := hcut
  replace hwx := hwx.symm
  subst hwx
  have zf := cut_le 200 s0
  obtain ⟨s, hs⟩ : ∃ s, cutB 200 s0 = s := ⟨_, rfl⟩
  rw [hs] at zf ⊢
  clear hs
  go_upto_if 23 with (fail)
  go_cut [1] (fun v wx => v = .string (cutB 200 s1) ∧ wx = w)
  case first =>
    by_cases h : 200 < s1.size
    · have F : Hid (cutB 200 s1 = s1.extract 0 200) := if_pos h
      have d : decide (200 < s1.size) = true := decide_eq_true h
      have d' : decide ((200 : Int) < (s1.size : Int)) = true := decide_eq_true (by omega)
      have b : (200 : Int) ≤ (s1.size : Int) := by omega
      have b' : 200 ≤ s1.size := by omega
      go_wp2
      go_meet
      exact ⟨by rw [F.out], rfl⟩
    · have F : Hid (cutB 200 s1 = s1) := if_neg h
      have d : decide (200 < s1.size) = false := decide_eq_false h
      have d' : decide ((200 : Int) < (s1.size : Int)) = false := decide_eq_false (by omega)
      go_wp2
      go_meet
      exact ⟨by rw [F.out], rfl⟩
  obtain ⟨rfl, hwx⟩ := hcut
  replace hwx := hwx.symm
  subst hwx
  have zg := cut_le 200 s1
  obtain ⟨t, ht⟩ : ∃ t, cutB 200 s1 = t := ⟨_, rfl⟩
  rw [ht] at zg ⊢
  clear ht
  cases hT : toksV s.data.toList with
  | err a x =>
    have hx0 := toks_err0 _ _ _ _ _ hT (Nat.lt_succ_self _)
    have n1 : (x == 0) = false := by simpa using hx0
    have n2 : (x != 0) = true := by simpa using hx0
    have HT := Lib.hid hT
    clear hT hx0
    obtain ⟨⟨B, n, y⟩, hO⟩ : ∃ z, outV t = z := ⟨_, rfl⟩
    have HO := Lib.hid hO
    clear hO
    go_wp2_with fail
    (with_reducible refine (toks_err _ HT.out (by omega)).mono ?_)
    rintro e w1 ⟨rfl, hb1⟩
    have h1 := hb1.size
    go_wp2_with fail
    (with_reducible refine (all_tok _ HO.out (by omega)).mono ?_)
    rintro e w2 ⟨p2, c2, rfl, _, _, hb2⟩
    have h2 := hb2.size
    have HB := hb1.trans (hb2.mono h1)
    have hBs := HB.size
    clear hb1 hb2
    go_wp2_with (go_at_call 13; (with_reducible refine (lives_any _).mono ?_); rintro e w4 ⟨rfl, hb4⟩)
    go_ret
    exact ⟨rfl, HB.trans (hb4.mono hBs)⟩
  | ok A =>
    obtain ⟨q, hq⟩ : ∃ q, A.length = q + 1 := ⟨A.length - 1, by have := toks_nonnil hT (Nat.lt_succ_self _); omega⟩
    have HT := Lib.hid hT
    have HQ := Lib.hid hq
    have hsz : s.data.toList.length = s.size := rfl
    have hqb : q ≤ 200 := by have := toks_len _ _ _ _ hT; omega
    clear hT hq
    go_wp2_with fail
    (with_reducible refine (toks_ok _ HT.out HQ.out (by omega)).mono ?_)
    rintro e w1 ⟨g1, c1, rfl, _, _, _, hg1, hr1, hb1⟩
    have h1 := hb1.size
    have H1 := Lib.hid hr1
    clear hr1
    have q0 : ((q : Int) + 1 == 0) = false := by simp; omega
    cases hT2 : toksV t.data.toList with
    | err a x =>
      have hx0 := toks_err0 _ _ _ _ _ hT2 (Nat.lt_succ_self _)
      have n1 : (x == 0) = false := by simpa using hx0
      have n2 : (x != 0) = true := by simpa using hx0
      have HT2 := Lib.hid hT2
      clear hT2 hx0
      go_wp2_with fail
      (with_reducible refine (toks_err _ HT2.out (by omega)).mono ?_)
      rintro e w2 ⟨rfl, hb2⟩
      have h2 := hb2.size
      have HB := hb1.trans (hb2.mono h1)
      have hBs := HB.size
      clear hb1 hb2
      go_wp2_with (go_at_call 13; (with_reducible refine (lives_any _).mono ?_); rintro e w4 ⟨rfl, hb4⟩)
      go_ret
      exact ⟨rfl, HB.trans (hb4.mono hBs)⟩
    | ok B =>
      obtain ⟨r, hr⟩ : ∃ r, B.length = r + 1 := ⟨B.length - 1, by have := toks_nonnil hT2 (Nat.lt_succ_self _); omega⟩
      have htz : t.data.toList.length = t.size := rfl
      have hrb : r ≤ 200 := by have := toks_len _ _ _ _ hT2; omega
      have hat := toks_at _ _ _ _ hT2 (Nat.lt_succ_self _)
      have hJ := joined0 HT.out hT2
      have hcl : (s ++ ⟨#[32]⟩ ++ t).data.toList = s.data.toList ++ 32 :: t.data.toList := by rw [app_list, app_list]; simp
      rw [← hcl, hsz] at hJ
      have hjs : (s ++ ⟨#[32]⟩ ++ t).size ≤ 2000 := by have : (⟨#[32]⟩ : ByteArray).size = 1 := rfl; simp; omega
      obtain ⟨m, hm⟩ : ∃ m, m = q + (r + 1) := ⟨_, rfl⟩
      have hml : (A.dropLast ++ B.map (ATok.shift (s.size + 1))).length = m := by simp [HQ.out, hr, hm]
      have HT2 := Lib.hid hT2
      have HR := Lib.hid hr
      have HAT := Lib.hid hat
      have HJ := Lib.hid hJ
      have HJS := Lib.hid hjs
      have HML := Lib.hid hml
      have r0 : ((r : Int) + 1 == 0) = false := by simp; omega
      clear hT2 hr hat hJ hcl hjs hml
      go_wp2_with fail
      (with_reducible refine (toks_ok _ HT2.out HR.out (by omega)).mono ?_)
      rintro e w2 ⟨g2, c2, rfl, _, _, _, hg2, hr2, hb2⟩
      have h2 := hb2.size
      have HB2 := hb1.trans (hb2.mono h1)
      have H2 := Lib.hid hr2
      have H1' := Lib.hid (H1.out.below hb2)
      have hg1' : g1 < w2.heap.size := by omega
      clear hr2 H1 hb1 hb2
      have hz1 : s.size + 1 ≤ 100000 := by omega
      have hz2 : s.size + (⟨#[32]⟩ : ByteArray).size ≤ 100000 := hz1
      have hz3 : s.size + 1 + t.size ≤ 100000 := by omega
      go_wp2_with fail
      (with_reducible refine (toks_ok _ HJ.out HML.out HJS.out).mono ?_)
      rintro e w3 ⟨g3, c3, rfl, _, _, _, hg3, hr3, hb3⟩
      have h3 := hb3.size
      have HB3 := HB2.trans (hb3.mono HB2.size)
      have H3 := Lib.hid hr3
      have H2' := Lib.hid (H2.out.below hb3)
      have H1 := Lib.hid (H1'.out.below hb3)
      have hg1 : g1 < w3.heap.size := by omega
      have hg2' : g2 < w3.heap.size := by omega
      clear hr3 H2 H1' hb3
      have k1 : ((m : Int) == (q : Int) + 1 + ((r : Int) + 1) - 1) = true := by simp; omega
      have k2 : ((m : Int) != (q : Int) + 1 + ((r : Int) + 1) - 1) = false := by simp; omega
      have HM := Lib.hid hm
      have hmb : m ≤ 1000 := by omega
      clear hm
      go_wp2_with fail
      clear k1 k2
      go_loopw [14] (fun i wr => ∃ j : Nat, j ≤ m ∧ i = .int .i64 j ∧ Inv w w w3 wr) (fun i _ => m - (intOf i).toNat)
      case atStart => exact ⟨0, Nat.zero_le _, rfl, Inv.start (Below.refl _ _) HB3⟩
      case round =>
        obtain ⟨j, hj, rfl, hI⟩ := hrel
        by_cases hlt : j < m
        · have dj : decide (j < m) = true := decide_eq_true hlt
          have hIs := hI.bW.size
          have hq := neq33
          have hgl1 : g1 < wr.heap.size := by omega
          have hgl2 : g2 < wr.heap.size := by omega
          have hgl3 : g3 < wr.heap.size := by omega
          have b1 : (0 : Int) ≤ (j : Int) := by omega
          have b2 : (j : Int) < (m : Int) := by omega
          obtain ⟨x0, x1, x2, x3⟩ := okrow H3.out hg3 hlt hI.bW
          by_cases hjq : j < q
          · have dq : decide (j < q) = true := decide_eq_true hjq
            have dq' : decide ((j : Int) < (q : Int)) = true := decide_eq_true (by omega)
            rw [join_left HQ.out hjq] at x0 x1 x2 x3
            obtain ⟨y0, y1, y2, y3⟩ := okrow H1.out hg1 (show j < q + 1 by omega) hI.bW
            obtain ⟨u, hu⟩ : ∃ u, A.getD j tz = u := ⟨_, rfl⟩
            rw [hu] at x0 x1 x2 x3 y0 y1 y2 y3
            have b3 : (j : Int) < (q : Int) + 1 := by omega
            clear hu
            go_wp2_with fail
            go_quiet (fail)
            go_wp2_with fail
            go_roundw
            case rel => exact ⟨j + 1, by omega, by go_num, hI.go (by (repeat' (first | (with_reducible exact Below.refl _ _) | (with_reducible assumption) | (with_reducible refine below_drewN ?_ _) | (with_reducible refine Below.alloc ?_ ?_ _) | (with_reducible refine Below.drew ?_) | (with_reducible refine Below.setCell ?_ ?_ _) | go_size)))⟩
            case measure => simp [intOf]; omega
          · have dq : decide (j < q) = false := decide_eq_false hjq
            have dq' : decide ((j : Int) < (q : Int)) = false := decide_eq_false (by omega)
            obtain ⟨k, hk⟩ : ∃ k, j = q + k := ⟨j - q, by omega⟩
            have hkr : k < r + 1 := by have := HM.out; omega
            have e : (A.dropLast ++ B.map (ATok.shift (s.size + 1))).getD j tz = ATok.shift (s.size + 1) (B.getD k tz) := by rw [hk, join_right HQ.out, shift_getD _ _ _ (by rw [HR.out]; exact hkr)]
            rw [e] at x0 x1 x2 x3
            obtain ⟨y0, y1, y2, y3⟩ := okrow H2'.out hg2' hkr hI.bW
            have hta := (HAT.out k (by rw [HR.out]; exact hkr)).2
            obtain ⟨u, hu⟩ : ∃ u, B.getD k tz = u := ⟨_, rfl⟩
            rw [hu] at x0 x1 x2 x3 y0 y1 y2 y3 hta
            obtain ⟨Y, hY⟩ : ∃ Y : Int, Y = ((u.at_ + (s.size + 1) : Nat) : Int) := ⟨_, rfl⟩
            replace x0 : wr.cell? ⟨g3, j * 4, none⟩ = some (.int .i64 u.kind) := x0
            replace x1 : wr.cell? ⟨g3, j * 4 + 1, none⟩ = some (.string (strB u.text)) := x1
            replace x2 : wr.cell? ⟨g3, j * 4 + 2, none⟩ = some (.int .i64 u.num) := x2
            replace x3 : wr.cell? ⟨g3, j * 4 + 3, none⟩ = some (.int .i64 Y) := by rw [hY]; exact x3
            have hua : u.at_ ≤ 1000 := by omega
            have Y1 : Y ≤ 5000 := by omega
            have Y2 : 0 ≤ Y := by omega
            have Y3 : Y - (s.size : Int) - 1 = (u.at_ : Int) := by omega
            have Y4 : 0 ≤ Y - (s.size : Int) := by omega
            obtain ⟨z, hz⟩ : ∃ z : Int, (j : Int) - ((q : Int) + 1) = z := ⟨_, rfl⟩
            have i1 : IntKind.i64.wrap ((j : Int) - ((q : Int) + 1)) = z := by rw [hz]; exact IntWalk.i64_in _ (by omega)
            have i2 : IntKind.i64.wrap z = z := IntWalk.i64_in _ (by omega)
            have i3 : z + 1 = (k : Int) := by omega
            have i4 : IntKind.i64.wrap (k : Int) = (k : Int) := IntWalk.i64_in _ (by omega)
            have i5 : (0 : Int) ≤ (k : Int) := by omega
            have i6 : (k : Int) < (r : Int) + 1 := by omega
            clear hu hta hk e hY hua
            go_wp2_with fail
            go_quiet (fail)
            go_wp2_with fail
            clear i1 i2 i3 i4 hz
            go_roundw
            case rel => exact ⟨j + 1, by omega, by go_num, hI.go (by (repeat' (first | (with_reducible exact Below.refl _ _) | (with_reducible assumption) | (with_reducible refine below_drewN ?_ _) | (with_reducible refine Below.alloc ?_ ?_ _) | (with_reducible refine Below.drew ?_) | (with_reducible refine Below.setCell ?_ ?_ _) | go_size)))⟩
            case measure => simp [intOf]; omega
        · have hjn : j = m := by omega
          have dj : decide (j < m) = false := decide_eq_false hlt
          have hB := hI.bw
          have hBs := hB.size
          clear hlt
          go_wp2_with (go_at_call 13; (with_reducible refine (lives_any _).mono ?_); rintro e w4 ⟨rfl, hb4⟩)
          go_ret
          exact ⟨rfl, hB.trans (hb4.mono hBs)⟩

/-! ### the row's step -/
set_option maxRecDepth 100000 in
theorem lifted (os : Os) (started : os.Started) (H : Type) (enc : TypeId × Value → H) :
    ReturnsInHanded {} Try.checked os 8 .any (Rows.lexJoinedSpec.pre6 enc Try.prog Try.f8 Rows.lexJoinedRow.domain false) (Rows.lexJoinedSpec.post enc Try.prog Try.f8 false true false false) := by
  refine returnsInHanded_of_change (C := Try.checked) own started (by kernel_rfl) Try.func8
    (ChangeSpec.witness6 (enc := enc) (C := Try.checked) false ⟨#[], #[.string ⟨#[]⟩, .string ⟨#[]⟩], []⟩ 8 (by kernel_rfl) (by kernel_rfl) (by kernel_rfl) (by kernel_rfl)) ?_
  intro W base args ds gs before hval0 hW hcnd _
  have hval : ∀ (j : Nat) t v, Try.f8.params[j]? = some t → args[j]? = some v → Value.okWide Try.prog W .any base t v := hval0
  have hW' := hW
  obtain ⟨p, q, hA0, hV, rfl, hfz, hnd⟩ := hW
  have hA : DataW.TrodAll enc Try.prog W 0 (fun _ => true) true Try.f8.params.toList args.toList ds p := hA0
  rw [Try.params8] at hA hval
  obtain ⟨v0, vs0, d0, ds0, p0, q0, hargs, rfl, rfl, h0, r0⟩ := trodAll_cons hA
  obtain ⟨v1, vs1, d1, ds1, p1, q1, rfl, rfl, rfl, h1, r1⟩ := trodAll_cons r0
  obtain ⟨rfl, rfl, rfl⟩ := trodAll_nil r1
  obtain rfl : args = #[v0, v1] := by cases args; simp_all
  obtain ⟨rfl, rfl⟩ := trodVars_none hV
  obtain ⟨s0, rfl, rfl, rfl, z0⟩ := Go.ChangeMaps.open_string Try.underlying9 (hval 0 9 v0 rfl rfl) h0
  obtain ⟨s1, rfl, rfl, rfl, z1⟩ := Go.ChangeMaps.open_string Try.underlying9 (hval 1 9 v1 rfl rfl) h1
  clear hA0 hval0
  refine (walk W _ (by have := z0; unfold maxLen at this; exact this) _ (by have := z1; unfold maxLen at this; exact this)).mono fun e W' ⟨he, bel⟩ => ?_
  subst he
  exact ⟨_, rfl, _, _, _, [], _, [], hW', trodAll_mk1 (shut_bool Try.underlying4 _), (trodAll_cons_mk (Go.ChangeMaps.shut_string Try.underlying9 z0) (trodAll_cons_mk (Go.ChangeMaps.shut_string Try.underlying9 z1) trodAll_mk0)), rfl, bel.frame _, fun h => by cases h⟩

theorem over : Rows.lexJoinedRow.holds Try.pinned (OpenSpec.ofChange Rows.lexJoinedSpec) :=
  OpenClaim.holds_of_wide 8 Try.f8 rfl rfl rfl rfl rfl rfl rfl ⟨rfl, rfl, rfl, rfl, rfl⟩ rfl rfl rfl rfl rfl (by kernel_rfl) Try.func8 (by kernel_rfl)
    (of_decide_eq_true (by kernel_rfl)) (by unfold Func.isWrapper; first | (rw [if_pos (by decide +kernel)]; kernel_rfl) | (rw [if_neg (by decide +kernel)]; exact ⟨rfl, rfl⟩))
    (fun os started H enc _ => lifted os started H enc)

theorem proved : Rows.LexJoinedSaid := over
end Go.Proofs.Ytdcibeagljeioaa.lexJoined

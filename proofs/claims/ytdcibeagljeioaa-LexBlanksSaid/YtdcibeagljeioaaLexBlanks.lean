/- The law LexBlanks of chapter 06 holds for every input: it returns true, and its arguments stay. No conditions. -/
import Derived.Test.YtdcibeagljeioaaRows
import Derived.Test.YtdcibeagljeioaaS5
import Derived.WalkKit
import Derived.ProofKit
import Derived.OpenShut
import Derived.ShutString
import Derived.ChangeOld
import Derived.ChangeMaps5
import Derived.LoopN
import Derived.Laws.BytesArg
import Derived.Laws.IdiomStrings
import Derived.Below
namespace Go.Proofs.Ytdcibeagljeioaa.lexBlanks
open Go.ChangeShapes Go.WideShapes Go.ChangeAt Go.RowKit
set_option linter.unusedVariables false
set_option linter.unusedSimpArgs false

theorem own : ownKnob Try.prog.godebug = none := by kernel_rfl
theorem laidOut : laidOutB Try.prog = true := by kernel_rfl

set_option maxRecDepth 100000 in
set_option maxHeartbeats 40000000 in
theorem walk (w : World) (s0 : ByteArray) (z0 : s0.size ≤ 9223372036854775807) (s1 : ByteArray) (z1 : s1.size ≤ 9223372036854775807) :
    Calls Try.prog 5 #[.string s0, .string s1] w fun e w' => e = .returned (.bool true) ∧ Below w.heap.size w w' := by
  have zf := few_le s0
  obtain ⟨s, hs⟩ : ∃ s, fewB s0 = s := ⟨_, rfl⟩
  have HS := Lib.hid hs
  rw [hs] at zf
  clear hs
  have FEW := few_any s0 w z0
  rw [HS.out] at FEW
  go_enter Try.func5, Try.ntmps5
  go_wp2_with fail
  (with_reducible refine FEW.mono ?_)
  rintro e w' ⟨rfl, hw'⟩
  replace hw' := hw'.symm
  subst hw'
  clear FEW
  go_wp2_with fail
  go_loop [5, 6] (fun o i => ∃ (k : Nat) (O : ByteArray), k ≤ s1.size ∧ k ≤ 20 ∧ i = .int .i64 k ∧ o = .string O ∧ O.size ≤ 3 + k ∧ O.data.toList = [32, 9, 34] ++ (s1.data.toList.take k).filter (fun c => c != 34)) (fun _ i => 20 - (intOf i).toNat)
  case atStart => exact ⟨0, ⟨#[32, 9, 34]⟩, by omega, by omega, rfl, rfl, by decide, rfl⟩
  case round =>
    obtain ⟨k, O, hk1, hk2, rfl, rfl, hO, hl⟩ := hrel
    have HL := Lib.hid hl
    clear hl
    by_cases hgo : k < s1.size ∧ k < 20
    · obtain ⟨h1, h2⟩ := hgo
      have d1 : decide (k < s1.size) = true := decide_eq_true h1
      have d1' : decide ((k : Int) < (s1.size : Int)) = true := decide_eq_true (by omega)
      have d2 : decide (k < 20) = true := decide_eq_true h2
      have d2' : decide ((k : Int) < 20) = true := decide_eq_true (by omega)
      have b0 : (0 : Int) ≤ (k : Int) := by omega
      have b1 : (k : Int) < (s1.size : Int) := by omega
      have HF := Lib.hid (filter_snoc s1 k h1)
      obtain ⟨x, hx⟩ : ∃ x, s1[k] = x := ⟨_, rfl⟩
      have e34 := u8_ne x 34 (by omega)
      cases q34 : x == UInt8.ofNat 34
      · rw [q34] at e34
        have n34 : ((x.toNat : Int) != 34) = true := e34
        have Q34 : Hid ((x != 34) = true) := by show _ = _; unfold bne; rw [show (x == 34) = false from q34]; rfl
        clear e34 q34
        have e1 : IntKind.i64.wrap ((k : Int) + 1) = (k : Int) + 1 := IntWalk.i64_in _ (by omega)
        have c2 : (k : Int) + 1 ≤ (s1.size : Int) := by omega
        have c3 : (0 : Int) ≤ (k : Int) + 1 := by omega
        have c4 : k + 1 ≤ s1.size := by omega
        have c5 : (k : Int) ≤ (k : Int) + 1 := by omega
        have c6 : k ≤ k + 1 := by omega
        have c8 : ((k : Int) + 1).toNat = k + 1 := by omega
        have hz : (s1.extract k (k + 1)).size = 1 := size_ext s1 k 1 (by omega)
        have hcat : O.size + 1 ≤ 100000 := by omega
        obtain ⟨t, ht⟩ : ∃ t, s1.extract k (k + 1) = t := ⟨_, rfl⟩
        rw [ht] at hz
        have HT := Lib.hid (one_byte h1 ht)
        go_wp2
        go_round
        case rel =>
          refine ⟨k + 1, O ++ t, by omega, by omega, by go_num, rfl, by simp; omega, ?_⟩
          rw [HF.out, hx, Q34.out, app_list, HL.out, HT.out, hx]
          simp
        case measure => simp [intOf]; omega
      · rw [q34] at e34
        have n34 : ((x.toNat : Int) != 34) = false := e34
        have Q34 : Hid ((x != 34) = false) := by show _ = _; unfold bne; rw [show (x == 34) = true from q34]; rfl
        clear e34 q34
        go_wp2
        go_round
        case rel =>
          refine ⟨k + 1, O, by omega, by omega, by go_num, rfl, by omega, ?_⟩
          rw [HF.out, hx, Q34.out, HL.out]
          simp
        case measure => simp [intOf]; omega
    · have hcat : O.size + 2 ≤ 100000 := by omega
      have hwh := ahead_whole (s1.data.toList.take k)
      obtain ⟨P, hP⟩ : ∃ P : ByteArray, O ++ ⟨#[34, 10]⟩ = P := ⟨_, rfl⟩
      have hPl : P.data.toList = [32, 9, 34] ++ (s1.data.toList.take k).filter (fun c => c != 34) ++ [34, 10] := by rw [← hP, app_list, HL.out]
      have hPz : P.size ≤ 25 := by
        have : P.size = P.data.toList.length := rfl
        rw [this, hPl]
        have h3 := List.length_filter_le (fun c : UInt8 => c != 34) (s1.data.toList.take k)
        have h4 := List.length_take_le k s1.data.toList
        simp only [List.length_append, List.length_cons, List.length_nil]
        omega
      rw [← hPl] at hwh
      have hcomb := toks_ahead hwh s.data.toList
      rw [← app_list] at hcomb
      have hPS : (P ++ s).size ≤ 2000 := by simp; omega
      have HPS := Lib.hid hPS
      have HC := Lib.hid hcomb
      have hPlen : P.data.toList.length = P.size := rfl
      have hsum : P.size + s.size ≤ 1000 := by omega
      clear hwh hPl hcomb
      have exitB : (decide (k < s1.size) = true ∧ decide ((k : Int) < (s1.size : Int)) = true ∧ decide (k < 20) = false ∧ decide ((k : Int) < 20) = false) ∨ (decide (k < s1.size) = false ∧ decide ((k : Int) < (s1.size : Int)) = false) := by
        by_cases h1 : k < s1.size
        · left
          exact ⟨decide_eq_true h1, decide_eq_true (by omega), decide_eq_false (fun h => hgo ⟨h1, h⟩), decide_eq_false (fun h => hgo ⟨h1, by omega⟩)⟩
        · right
          exact ⟨decide_eq_false h1, decide_eq_false (by omega)⟩
      clear hgo
      rcases exitB with ⟨d1, d1', d2, d2'⟩ | ⟨d1, d1'⟩
      all_goals
        cases hT : toksV s.data.toList with
        | err a x =>
          have hx0 := toks_err0 _ _ _ _ _ hT (Nat.lt_succ_self _)
          have n1 : (x == 0) = false := by simpa using hx0
          have n2 : (x != 0) = true := by simpa using hx0
          have hT2 : toksV (P ++ s).data.toList = .err (a + P.size) x := by rw [HC.out, hT]; rfl
          have HT := Lib.hid hT
          have HT2 := Lib.hid hT2
          have hab : a ≤ 100000 := by
            have := err_at _ _ _ _ _ hT (Nat.lt_succ_self _)
            have h5 : s.data.toList.length = s.size := rfl
            omega
          clear hT hT2 hx0
          go_wp2_with fail
          (with_reducible refine (toks_err _ HT.out (by omega)).mono ?_)
          rintro e w1 ⟨rfl, hb1⟩
          have h1 := hb1.size
          clear hP
          go_wp2_with fail
          (with_reducible refine (toks_err _ HT2.out HPS.out).mono ?_)
          rintro e w2 ⟨rfl, hb2⟩
          have h2 := hb2.size
          have HB := hb1.trans (hb2.mono h1)
          have n3 : ((((a + P.size : Nat) : Int)) != (a : Int) + (P.size : Int)) = false := by simp
          go_wp2_with fail
          refine wp_loop_rounds 1 ?_
          rw [rounds_succ]
          go_wp2_with (go_at_call 13; (with_reducible refine (lives_any _).mono ?_); rintro e w4 ⟨rfl, hb4⟩)
          go_ret
          exact ⟨rfl, HB.trans (hb4.mono (by omega))⟩
        | ok A =>
          have hlen := toks_len _ _ _ _ hT
          have hat := toks_at _ _ _ _ hT (Nat.lt_succ_self _)
          have h5 : s.data.toList.length = s.size := rfl
          have hT2 : toksV (P ++ s).data.toList = .ok (A.map (ATok.shift P.size)) := by rw [HC.out, hT]; rfl
          obtain ⟨n, hn⟩ : ∃ n, A.length = n := ⟨_, rfl⟩
          have hn2 : (A.map (ATok.shift P.size)).length = n := by rw [List.length_map, hn]
          rw [hn] at hlen hat
          have hnb : n ≤ 100000 := by omega
          have HT := Lib.hid hT
          have HT2 := Lib.hid hT2
          have HN := Lib.hid hn
          have HN2 := Lib.hid hn2
          have HAT := Lib.hid hat
          clear hT hT2 hn hn2 hat hlen h5
          go_wp2_with fail
          (with_reducible refine (toks_ok _ HT.out HN.out (by omega)).mono ?_)
          rintro e w1 ⟨g1, c1, rfl, _, _, _, hg1, hr1, hb1⟩
          have h1 := hb1.size
          have H1 := Lib.hid (hr1.below (Below.refl _ _))
          clear hP hr1
          go_wp2_with fail
          (with_reducible refine (toks_ok _ HT2.out HN2.out HPS.out).mono ?_)
          rintro e w2 ⟨g2, c2, rfl, _, _, _, hg2, hr2, hb2⟩
          have h2 := hb2.size
          have HB := hb1.trans (hb2.mono h1)
          have H2 := Lib.hid hr2
          have H1' := Lib.hid (H1.out.below hb2)
          have hg1' : g1 < w2.heap.size := by omega
          clear hr2 H1 hb1 hb2
          go_wp2_with fail
          go_loopw [13] (fun i wr => ∃ k : Nat, k ≤ n ∧ i = .int .i64 k ∧ Inv w w w2 wr) (fun i _ => n - (intOf i).toNat)
          case atStart => exact ⟨0, Nat.zero_le _, rfl, Inv.start (Below.refl _ _) HB⟩
          case round =>
            obtain ⟨j, hj, rfl, hI⟩ := hrel
            by_cases hlt : j < n
            · have dj : decide (j < n) = true := decide_eq_true hlt
              have hIs := hI.bW.size
              obtain ⟨c0, c1', c2', c3'⟩ := okrow H1'.out hg1' hlt hI.bW
              obtain ⟨e0, e1', e2', e3'⟩ := okrow H2.out hg2 hlt hI.bW
              rw [shift_getD _ _ _ (by rw [HN.out]; exact hlt)] at e0 e1' e2' e3'
              have hta := (HAT.out j hlt).2
              obtain ⟨t, ht⟩ : ∃ t, A.getD j tz = t := ⟨_, rfl⟩
              rw [ht] at c0 c1' c2' c3' e0 e1' e2' e3' hta
              replace e0 : wr.cell? ⟨g2, j * 4, none⟩ = some (.int .i64 t.kind) := e0
              replace e1' : wr.cell? ⟨g2, j * 4 + 1, none⟩ = some (.string (strB t.text)) := e1'
              replace e2' : wr.cell? ⟨g2, j * 4 + 2, none⟩ = some (.int .i64 t.num) := e2'
              replace e3' : wr.cell? ⟨g2, j * 4 + 3, none⟩ = some (.int .i64 ((t.at_ : Int) + (P.size : Int))) := e3'
              have hta2 : t.at_ ≤ 2000 := by
                have h5 : s.data.toList.length = s.size := rfl
                omega
              have hq := neq33
              have hgl1 : g1 < wr.heap.size := by omega
              have hgl2 : g2 < wr.heap.size := by omega
              have b1 : (0 : Int) ≤ (j : Int) := by omega
              have b2 : (j : Int) < (n : Int) := by omega
              clear ht hta
              go_wp2_with fail
              go_quiet (fail)
              go_wp2_with fail
              go_roundw
              case rel => exact ⟨j + 1, by omega, by go_num, hI.go (by (repeat' (first | (with_reducible exact Below.refl _ _) | (with_reducible assumption) | (with_reducible refine below_drewN ?_ _) | (with_reducible refine Below.alloc ?_ ?_ _) | (with_reducible refine Below.drew ?_) | (with_reducible refine Below.setCell ?_ ?_ _) | go_size)))⟩
              case measure => simp [intOf]; omega
            · have hjn : j = n := by omega
              have dj : decide (j < n) = false := decide_eq_false hlt
              have hB := hI.bw
              have hBs := hB.size
              clear hlt
              go_wp2_with (go_at_call 13; (with_reducible refine (lives_any _).mono ?_); rintro e w4 ⟨rfl, hb4⟩)
              go_ret
              exact ⟨rfl, hB.trans (hb4.mono hBs)⟩

/-! ### the row's step -/
set_option maxRecDepth 100000 in
theorem lifted (os : Os) (started : os.Started) (H : Type) (enc : TypeId × Value → H) :
    ReturnsInHanded {} Try.checked os 5 .any (Rows.lexBlanksSpec.pre6 enc Try.prog Try.f5 Rows.lexBlanksRow.domain false) (Rows.lexBlanksSpec.post enc Try.prog Try.f5 false true false false) := by
  refine returnsInHanded_of_change (C := Try.checked) own started (by kernel_rfl) Try.func5
    (ChangeSpec.witness6 (enc := enc) (C := Try.checked) false ⟨#[], #[.string ⟨#[]⟩, .string ⟨#[]⟩], []⟩ 8 (by kernel_rfl) (by kernel_rfl) (by kernel_rfl) (by kernel_rfl)) ?_
  intro W base args ds gs before hval0 hW hcnd _
  have hval : ∀ (j : Nat) t v, Try.f5.params[j]? = some t → args[j]? = some v → Value.okWide Try.prog W .any base t v := hval0
  have hW' := hW
  obtain ⟨p, q, hA0, hV, rfl, hfz, hnd⟩ := hW
  have hA : DataW.TrodAll enc Try.prog W 0 (fun _ => true) true Try.f5.params.toList args.toList ds p := hA0
  rw [Try.params5] at hA hval
  obtain ⟨v0, vs0, d0, ds0, p0, q0, hargs, rfl, rfl, h0, r0⟩ := trodAll_cons hA
  obtain ⟨v1, vs1, d1, ds1, p1, q1, rfl, rfl, rfl, h1, r1⟩ := trodAll_cons r0
  obtain ⟨rfl, rfl, rfl⟩ := trodAll_nil r1
  obtain rfl : args = #[v0, v1] := by cases args; simp_all
  obtain ⟨rfl, rfl⟩ := trodVars_none hV
  obtain ⟨s0, rfl, rfl, rfl, z0⟩ := Go.ChangeMaps.open_string Try.underlying9 (hval 0 9 v0 rfl rfl) h0
  obtain ⟨s1, rfl, rfl, rfl, z1⟩ := Go.ChangeMaps.open_string Try.underlying9 (hval 1 9 v1 rfl rfl) h1
  clear hA0 hval0
  refine (walk W _ (by have := z0; unfold maxLen at this; exact this) _ (by have := z1; unfold maxLen at this; exact this)).mono fun e W' ⟨he, bel⟩ => ?_
  subst he
  exact ⟨_, rfl, _, _, _, [], _, [], hW', trodAll_mk1 (shut_bool Try.underlying4 _), (trodAll_cons_mk (Go.ChangeMaps.shut_string Try.underlying9 z0) (trodAll_cons_mk (Go.ChangeMaps.shut_string Try.underlying9 z1) trodAll_mk0)), rfl, bel.frame _, fun h => by cases h⟩

theorem over : Rows.lexBlanksRow.holds Try.pinned (OpenSpec.ofChange Rows.lexBlanksSpec) :=
  OpenClaim.holds_of_wide 5 Try.f5 rfl rfl rfl rfl rfl rfl rfl ⟨rfl, rfl, rfl, rfl, rfl⟩ rfl rfl rfl rfl rfl (by kernel_rfl) Try.func5 (by kernel_rfl)
    (of_decide_eq_true (by kernel_rfl)) (by unfold Func.isWrapper; first | (rw [if_pos (by decide +kernel)]; kernel_rfl) | (rw [if_neg (by decide +kernel)]; exact ⟨rfl, rfl⟩))
    (fun os started H enc _ => lifted os started H enc)

theorem proved : Rows.LexBlanksSaid := over
end Go.Proofs.Ytdcibeagljeioaa.lexBlanks

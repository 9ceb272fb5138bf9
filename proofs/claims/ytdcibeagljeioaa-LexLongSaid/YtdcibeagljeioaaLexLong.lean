/- The law LexLong of chapter 06 holds for every input: it returns true, and its arguments stay. No conditions. -/
import Derived.Test.YtdcibeagljeioaaRows
import Derived.Test.YtdcibeagljeioaaS4
import Derived.WalkKit
import Derived.ProofKit
import Derived.OpenShut
import Derived.ShutString
import Derived.ChangeOld
import Derived.ChangeMaps5
import Derived.Laws.BytesArg
import Derived.Laws.IdiomStrings
import Derived.Below
namespace Go.Proofs.Ytdcibeagljeioaa.lexLong
open Go.ChangeShapes Go.WideShapes Go.ChangeAt Go.RowKit
set_option linter.unusedVariables false
set_option linter.unusedSimpArgs false

theorem own : ownKnob Try.prog.godebug = none := by kernel_rfl
theorem laidOut : laidOutB Try.prog = true := by kernel_rfl
theorem info5 : (Try.prog.info? 5).map (fun i => (i.zero, i.size, i.bytes)) = some (some (.int .u8 0), 1, 1) := by kernel_rfl
def byteV (b : UInt8) : Value := .int .u8 (b.toNat : Int)
theorem conv_own {w : World} {base n : Nat} {v : Value} {l : List UInt8} (h : w.ownsRow base 5 1 v n (l.map byteV)) (hn : l.length = n) : (Go.convert 30 9 v).run Try.prog w = .ok (.string ⟨l.toArray⟩) w := by
  rcases h.2 with ⟨rfl, h0⟩ | ⟨g, cap, cur, rfl, hg, hh, hn', hm, _⟩
  · have : l = [] := List.eq_nil_of_length_eq_zero (by omega)
    subst this
    exact run_convert_bytes_nil w 30 5 Try.underlying30 Try.underlying5 0 0 9 Try.underlying9
  · subst hn
    exact run_convert_bytes_back w 30 9 5 ⟨g, 0, none⟩ cap l Try.underlying30 Try.underlying5 Try.underlying9 (fun j hj => by
      rw [add_plain, Nat.zero_add, h.cellAt j (by omega), List.getElem?_map, List.getElem?_eq_getElem hj]; rfl)

set_option maxRecDepth 100000 in
set_option maxHeartbeats 40000000 in
theorem walk (w : World) (c0 : Int) (w0 : (Lit.int .u8 c0).wf = true) (a1 : Int) (w1 : (Lit.int .i64 a1).wf = true) :
    Calls Try.prog 4 #[.int .u8 c0, .int .i64 a1] w fun e w' => e = .returned (.bool true) ∧ Below w.heap.size w w' := by
  obtain ⟨l1, l2⟩ := bounds_i64 w1
  obtain ⟨u1, u2⟩ := bounds_u8 w0
  obtain ⟨b, rfl⟩ : ∃ b : UInt8, c0 = (b.toNat : Int) := ⟨UInt8.ofNat c0.toNat, by simp; omega⟩
  obtain ⟨i0, hi, hz0, hz1, hz2⟩ := info_parts info5
  clear w0 w1
  rcases Int.lt_or_le a1 0 with hneg | hneg
  all_goals
    go_enter Try.func4, Try.ntmps4
    go_wp2
    first | (obtain ⟨m, hm⟩ : ∃ m : Int, -(a1 + 1) = m := ⟨_, rfl⟩; rw [hm]; have hm0 : 0 ≤ m := by omega) | (obtain ⟨m, hm⟩ : ∃ m : Int, a1 = m := ⟨_, rfl⟩; rw [hm]; have hm0 : 0 ≤ m := by omega)
    have hm1 : m ≤ 9223372036854775807 := by omega
    clear hm hneg l1 l2
    obtain ⟨K, hK⟩ : ∃ K : Nat, m % 2100 = (K : Int) := ⟨(m % 2100).toNat, by omega⟩
    have hKb : K < 2100 := by omega
    have HK := Lib.hid hK
    clear hK
    go_loopw [5, 6] (fun v i wr => ∃ k : Nat, k ≤ K ∧ i = .int .i64 k ∧ wr.ownsRow w.heap.size 5 1 v k ((List.replicate k b).map byteV) ∧ Below w.heap.size w wr) (fun _ i _ => K - (intOf i).toNat)
    case atStart => exact ⟨0, Nat.zero_le _, rfl, World.ownsRow_nil _ _ _ _, by (repeat' (first | (with_reducible exact Below.refl _ _) | (with_reducible assumption) | (with_reducible refine below_drewN ?_ _) | (with_reducible refine Below.alloc ?_ ?_ _) | (with_reducible refine Below.drew ?_) | (with_reducible refine Below.setCell ?_ ?_ _) | go_size))⟩
    case round =>
      obtain ⟨k, hk, rfl, hown, hB⟩ := hrel
      have hBs := hB.size
      by_cases hlt : k < K
      · have d1 : decide ((k : Int) < m % 2100) = true := decide_eq_true (by have := HK.out; omega)
        go_wp2_with (at_builtin; refine wpList_append_own _ rfl _ _ 30 rfl w.heap.size 5 i0 (.int .u8 0) 1 1 Try.underlying30 hi hz0 hz1 hz2 rfl (by decide) _ _ _ rfl (hown.alloc _) ⟨_, 0, none⟩ 1 1 [byteV b] rfl rfl (cells_new _ _ _) (by simp [Value.oneCell', byteV]) (by unfold maxLen; omega) (by omega) (by simp only [World.size_alloc]; omega) ?_; intro v2 w2 hown2 hg2 _)
        go_roundw
        case rel =>
          have hb2 := below_of_append (hown.alloc (.cells #[byteV b] 5)) hg2 (by simp only [World.size_alloc]; omega)
          refine ⟨k + 1, hlt, by go_num, ?_, ?_⟩
          · rw [List.replicate_succ', List.map_append]; exact hown2
          · have h3 : Below w.heap.size w (wr.alloc (.cells #[byteV b] 5)) := by (repeat' (first | (with_reducible exact Below.refl _ _) | (with_reducible assumption) | (with_reducible refine below_drewN ?_ _) | (with_reducible refine Below.alloc ?_ ?_ _) | (with_reducible refine Below.drew ?_) | (with_reducible refine Below.setCell ?_ ?_ _) | go_size))
            exact h3.trans (hb2.mono (by omega))
        case measure => simp [intOf]; omega
      · have hkK : k = K := by omega
        have d1 : decide ((k : Int) < m % 2100) = false := decide_eq_false (by have := HK.out; omega)
        have hcv := conv_own (l := List.replicate k b) (n := k) hown (by simp)
        obtain ⟨s, hs⟩ : ∃ s : ByteArray, (⟨(List.replicate k b).toArray⟩ : ByteArray) = s := ⟨_, rfl⟩
        have zs : s.size ≤ 9223372036854775807 := by rw [← hs]; show (List.replicate k b).toArray.size ≤ _; simp; omega
        rw [hs] at hcv
        clear hs hkK hown
        obtain ⟨⟨A, n, x⟩, hT⟩ : ∃ t, outV s = t := ⟨_, rfl⟩
        have HT := Lib.hid hT
        clear hT
        go_wp2_with fail
        (with_reducible refine (all_tok _ HT.out zs).mono ?_)
        rintro e w1 ⟨p1, c1, rfl, hr1, hl, hb1⟩
        have h1 := hb1.size
        have H1 := Lib.hid hr1
        clear hr1
        go_wp2_with fail
        (with_reducible refine (all_rtok _ HT.out zs).mono ?_)
        rintro e w2 ⟨p2, c2, rfl, hr2, _, hb2⟩
        have h2 := hb2.size
        have H2 := Lib.hid hr2
        have B2 := hb1.trans (hb2.mono h1)
        clear hr2
        go_wp2_with fail
        (with_reducible refine (same_any (H1.out.below hb2) H2.out hl (Below.refl _ _)).mono ?_)
        rintro e w3 ⟨rfl, hb3⟩
        have h3 := hb3.size
        have B3 := B2.trans (hb3.mono (by omega))
        clear hb1 hb2 hb3
        go_wp2_with (go_at_call 13; (with_reducible refine (lives_any _).mono ?_); rintro e w4 ⟨rfl, hb4⟩)
        go_ret
        exact ⟨rfl, hB.trans ((B3.trans (hb4.mono (by omega))).mono hB.size)⟩

/-! ### the row's step -/
set_option maxRecDepth 100000 in
theorem lifted (os : Os) (started : os.Started) (H : Type) (enc : TypeId × Value → H) :
    ReturnsInHanded {} Try.checked os 4 .any (Rows.lexLongSpec.pre6 enc Try.prog Try.f4 Rows.lexLongRow.domain false) (Rows.lexLongSpec.post enc Try.prog Try.f4 false true false false) := by
  refine returnsInHanded_of_change (C := Try.checked) own started (by kernel_rfl) Try.func4
    (ChangeSpec.witness6 (enc := enc) (C := Try.checked) false ⟨#[], #[.int .u8 0, .int .i64 0], []⟩ 8 (by kernel_rfl) (by kernel_rfl) (by kernel_rfl) (by kernel_rfl)) ?_
  intro W base args ds gs before hval0 hW hcnd _
  have hval : ∀ (j : Nat) t v, Try.f4.params[j]? = some t → args[j]? = some v → Value.okWide Try.prog W .any base t v := hval0
  have hW' := hW
  obtain ⟨p, q, hA0, hV, rfl, hfz, hnd⟩ := hW
  have hA : DataW.TrodAll enc Try.prog W 0 (fun _ => true) true Try.f4.params.toList args.toList ds p := hA0
  rw [Try.params4] at hA hval
  obtain ⟨v0, vs0, d0, ds0, p0, q0, hargs, rfl, rfl, h0, r0⟩ := trodAll_cons hA
  obtain ⟨v1, vs1, d1, ds1, p1, q1, rfl, rfl, rfl, h1, r1⟩ := trodAll_cons r0
  obtain ⟨rfl, rfl, rfl⟩ := trodAll_nil r1
  obtain rfl : args = #[v0, v1] := by cases args; simp_all
  obtain ⟨rfl, rfl⟩ := trodVars_none hV
  obtain ⟨a0, rfl, rfl, rfl, w0⟩ := open_int Try.underlying5 (hval 0 5 v0 rfl rfl) h0
  obtain ⟨a1, rfl, rfl, rfl, w1⟩ := open_int Try.underlying3 (hval 1 3 v1 rfl rfl) h1
  clear hA0 hval0
  refine (walk W _ w0 _ w1).mono fun e W' ⟨he, bel⟩ => ?_
  subst he
  exact ⟨_, rfl, _, _, _, [], _, [], hW', trodAll_mk1 (shut_bool Try.underlying4 _), (trodAll_cons_mk (shut_int Try.underlying5 w0) (trodAll_cons_mk (shut_int Try.underlying3 w1) trodAll_mk0)), rfl, bel.frame _, fun h => by cases h⟩

theorem over : Rows.lexLongRow.holds Try.pinned (OpenSpec.ofChange Rows.lexLongSpec) :=
  OpenClaim.holds_of_wide 4 Try.f4 rfl rfl rfl rfl rfl rfl rfl ⟨rfl, rfl, rfl, rfl, rfl⟩ rfl rfl rfl rfl rfl (by kernel_rfl) Try.func4 (by kernel_rfl)
    (of_decide_eq_true (by kernel_rfl)) (by unfold Func.isWrapper; first | (rw [if_pos (by decide +kernel)]; kernel_rfl) | (rw [if_neg (by decide +kernel)]; exact ⟨rfl, rfl⟩))
    (fun os started H enc _ => lifted os started H enc)

theorem proved : Rows.LexLongSaid := over
end Go.Proofs.Ytdcibeagljeioaa.lexLong

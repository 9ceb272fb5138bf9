/- The law VerifyChecks of chapter 11 holds for every input: it returns true, and its arguments stay. No conditions. -/
import Derived.Test.YtnjfjebmkajpbaaRows
import Derived.Test.YtnjfjebmkajpbaaO3
import Derived.Test.YtnjfjebmkajpbaaQ2
import Derived.Test.YtnjfjebmkajpbaaM1
import Derived.Test.YtnjfjebmkajpbaaM2
import Derived.WalkKit
import Derived.ProofKit
import Derived.OpenShut
import Derived.ChangeOld
import Derived.Below
namespace Go.Proofs.Ytnjfjebmkajpbaa.verifyChecks
open Go.ChangeShapes Go.WideShapes Go.ChangeAt Go.RowKit
set_option linter.unusedVariables false
set_option linter.unusedSimpArgs false

theorem own : ownKnob Try.prog.godebug = none := by kernel_rfl
theorem laidOut : laidOutB Try.prog = true := by kernel_rfl
theorem row_none {w : World} (F : Nat → Int) : Row w none 0 1 (fun i _ => .int .i64 (F i)) := fun h => absurd h (by omega)
set_option maxRecDepth 100000 in
set_option maxHeartbeats 40000000 in
theorem walk (w : World) (s0 : ByteArray) (x0 y0 z0 : Int) (p0 q0 : Option Addr) (ts0 : List LitT) (c0 n0 d0 : Nat) (F0 : Nat → Nat → Value) (C0 : Nat → Ins) (R0 : RawM w s0 p0 c0 F0 ts0 q0 n0 d0 C0) (a1 : Int) :
    Calls Try.prog 3 #[.agg #[.string s0, .int .i64 x0, .int .i64 y0, .int .i64 z0, .slice p0 ts0.length c0, .slice q0 n0 d0], .int .i64 a1] w fun e w' => e = .returned (.bool true) ∧ Below w.heap.size w w' := by
  have hB1 : Below w.heap.size w (w.alloc (.cells #[.string s0, .int .i64 x0, .int .i64 y0, .int .i64 z0, .slice p0 ts0.length c0, .slice q0 n0 d0] 25)) := (Below.refl _ _).alloc (Nat.le_refl _) _
  have hfew := few_any (args := x0) (temps := y0) (prim := z0) R0 (w.alloc (.cells #[.string s0, .int .i64 x0, .int .i64 y0, .int .i64 z0, .slice p0 ts0.length c0, .slice q0 n0 d0] 25)) hB1
  obtain ⟨us, hus⟩ : ∃ us, ts0.take (cutN ts0.length 70) = us := ⟨_, rfl⟩
  have hul : us.length = cutN ts0.length 70 := by rw [← hus]; have := cutN_le ts0.length 70; simp; omega
  have hli := R0.lits.take (cutN ts0.length 70) (cutN_le _ _).1
  rw [hus] at hfew hli
  rw [← hul] at hfew
  obtain ⟨sv, hsv⟩ : ∃ sv, cutS s0 80 = sv := ⟨_, rfl⟩
  obtain ⟨m, hm⟩ : ∃ m, cutN n0 420 = m := ⟨_, rfl⟩
  rw [hsv, hm] at hfew
  have hsz : sv.size ≤ 9223372036854775807 := by rw [← hsv]; have := cutS_size s0 80; have := R0.sel; omega
  have hm1 := cutN_le n0 420
  rw [hm] at hm1
  have hcd : IsCode w q0 m C0 := Row.less R0.code.row hm1.1
  have hlc : us.length ≤ c0 ∧ us.length ≤ 70 := by have := R0.le; have := cutN_le ts0.length 70; omega
  have hmd : m ≤ d0 := by have := R0.code.le; omega
  have hm2 : m ≤ 420 := hm1.2
  have hl1 := hlc.1
  have hl2 := hlc.2
  have hcap1 := R0.cap
  have hcap2 := R0.code.cap
  have HFEW := Lib.hid hfew
  have HLI := Lib.hid hli
  have HCD := Lib.hid hcd
  clear hfew hli hcd hus hul hsv hm hm1 hlc R0
  go_enter Try.func3, Try.ntmps3
  go_wp2_with fail
  (with_reducible refine HFEW.out.mono ?_)
  rintro e w2 ⟨ok, rfl, hok, hb2⟩
  have hbw2 := hB1.trans (hb2.mono hB1.size)
  have hz2 : w.heap.size < w2.heap.size := Nat.lt_of_lt_of_le (by go_size) hb2.size
  have c0_ : w2.cell? ⟨w.heap.size, 0, none⟩ = some (.string s0) := (hb2.cell (p := ⟨w.heap.size, 0, none⟩) (by go_size)).trans (by simp [go_sem])
  have c1_ : w2.cell? ⟨w.heap.size, 1, none⟩ = some (.int .i64 x0) := (hb2.cell (p := ⟨w.heap.size, 1, none⟩) (by go_size)).trans (by simp [go_sem])
  have c2_ : w2.cell? ⟨w.heap.size, 2, none⟩ = some (.int .i64 y0) := (hb2.cell (p := ⟨w.heap.size, 2, none⟩) (by go_size)).trans (by simp [go_sem])
  have c3_ : w2.cell? ⟨w.heap.size, 3, none⟩ = some (.int .i64 z0) := (hb2.cell (p := ⟨w.heap.size, 3, none⟩) (by go_size)).trans (by simp [go_sem])
  have c4_ : w2.cell? ⟨w.heap.size, 4, none⟩ = some (.slice p0 ts0.length c0) := (hb2.cell (p := ⟨w.heap.size, 4, none⟩) (by go_size)).trans (by simp [go_sem])
  have c5_ : w2.cell? ⟨w.heap.size, 5, none⟩ = some (.slice q0 n0 d0) := (hb2.cell (p := ⟨w.heap.size, 5, none⟩) (by go_size)).trans (by simp [go_sem])
  have f0_ : w2.frozen? ⟨w.heap.size, 0, none⟩ = false := (hb2.frozen (p := ⟨w.heap.size, 0, none⟩) (by go_size)).trans (by simp [go_sem])
  have f1_ : w2.frozen? ⟨w.heap.size, 1, none⟩ = false := (hb2.frozen (p := ⟨w.heap.size, 1, none⟩) (by go_size)).trans (by simp [go_sem])
  have f2_ : w2.frozen? ⟨w.heap.size, 2, none⟩ = false := (hb2.frozen (p := ⟨w.heap.size, 2, none⟩) (by go_size)).trans (by simp [go_sem])
  have f3_ : w2.frozen? ⟨w.heap.size, 3, none⟩ = false := (hb2.frozen (p := ⟨w.heap.size, 3, none⟩) (by go_size)).trans (by simp [go_sem])
  have f4_ : w2.frozen? ⟨w.heap.size, 4, none⟩ = false := (hb2.frozen (p := ⟨w.heap.size, 4, none⟩) (by go_size)).trans (by simp [go_sem])
  have f5_ : w2.frozen? ⟨w.heap.size, 5, none⟩ = false := (hb2.frozen (p := ⟨w.heap.size, 5, none⟩) (by go_size)).trans (by simp [go_sem])
  have HOK := Lib.hid hok
  clear hok hB1 hb2 HFEW
  cases ok
  · go_wp2_with (go_at_call 8; (with_reducible refine (lives_any _).mono ?_); rintro e w4 ⟨rfl, hb4⟩)
    go_ret
    exact ⟨rfl, (show Below w.heap.size w _ by have h4 := (show Below w.heap.size w _ by (repeat' (first | (with_reducible exact Below.refl _ _) | (with_reducible assumption) | (with_reducible refine below_drewN ?_ _) | (with_reducible refine Below.alloc ?_ ?_ _) | (with_reducible refine Below.drew ?_) | (with_reducible refine Below.setCell ?_ ?_ _) | go_size))).trans (hb4.mono (by go_size)); (repeat' (first | (with_reducible exact Below.refl _ _) | (with_reducible assumption) | (with_reducible refine below_drewN ?_ _) | (with_reducible refine Below.alloc ?_ ?_ _) | (with_reducible refine Below.drew ?_) | (with_reducible refine Below.setCell ?_ ?_ _) | go_size)))⟩
  · have HOKT : Hid (∀ (i : Nat) (h : i < us.length), hgt us[i] ≤ 60) := HOK.out rfl
    clear HOK
    go_wp2_with fail
    (with_reducible refine (depths9_any (fields := a1) m c0 d0 p0 q0 sv x0 y0 z0 us HLI.out (by (repeat' (first | (with_reducible exact Below.refl _ _) | (with_reducible assumption) | (with_reducible refine below_drewN ?_ _) | (with_reducible refine Below.alloc ?_ ?_ _) | (with_reducible refine Below.drew ?_) | (with_reducible refine Below.setCell ?_ ?_ _) | go_size))) hl1 hcap1 hmd hcap2 hsz (fun i h => Nat.le_trans (HOKT.out i h) (by omega)) HCD.out).mono ?_)
    rintro e w4 ⟨hb4, hG⟩
    have hB4 : Below w.heap.size w w4 := (show Below w.heap.size w _ by (repeat' (first | (with_reducible exact Below.refl _ _) | (with_reducible assumption) | (with_reducible refine below_drewN ?_ _) | (with_reducible refine Below.alloc ?_ ?_ _) | (with_reducible refine Below.drew ?_) | (with_reducible refine Below.setCell ?_ ?_ _) | go_size))).trans (hb4.mono (by go_size))
    have k0 : w4.cell? ⟨w.heap.size, 0, none⟩ = some (.string sv) := (hb4.cell (p := ⟨w.heap.size, 0, none⟩) (by go_size)).trans (by simp [go_sem, c0_, c1_, c2_, c3_, c4_, c5_])
    have k1 : w4.cell? ⟨w.heap.size, 1, none⟩ = some (.int .i64 x0) := (hb4.cell (p := ⟨w.heap.size, 1, none⟩) (by go_size)).trans (by simp [go_sem, c0_, c1_, c2_, c3_, c4_, c5_])
    have k2 : w4.cell? ⟨w.heap.size, 2, none⟩ = some (.int .i64 y0) := (hb4.cell (p := ⟨w.heap.size, 2, none⟩) (by go_size)).trans (by simp [go_sem, c0_, c1_, c2_, c3_, c4_, c5_])
    have k3 : w4.cell? ⟨w.heap.size, 3, none⟩ = some (.int .i64 z0) := (hb4.cell (p := ⟨w.heap.size, 3, none⟩) (by go_size)).trans (by simp [go_sem, c0_, c1_, c2_, c3_, c4_, c5_])
    have k4 : w4.cell? ⟨w.heap.size, 4, none⟩ = some (.slice p0 us.length c0) := (hb4.cell (p := ⟨w.heap.size, 4, none⟩) (by go_size)).trans (by simp [go_sem, c0_, c1_, c2_, c3_, c4_, c5_])
    have k5 : w4.cell? ⟨w.heap.size, 5, none⟩ = some (.slice q0 m d0) := (hb4.cell (p := ⟨w.heap.size, 5, none⟩) (by go_size)).trans (by simp [go_sem, c0_, c1_, c2_, c3_, c4_, c5_])
    clear hb4 c0_ c1_ c2_ c3_ c4_ c5_ f0_ f1_ f2_ f3_ f4_ f5_
    rcases hG with ⟨hg, v, G1, rfl, ⟨pa, ca, rfl, ha1, ha2, hra, _⟩, hs1, hc1⟩ | ⟨hg, rfl⟩
    · go_wp2_with fail
      (with_reducible refine (rdepths_any (fields := a1) m c0 d0 p0 q0 sv x0 y0 z0 us HLI.out hB4 hl1 hcap1 hmd hcap2 hsz HCD.out).mono ?_)
      rintro e w5 ⟨hb5, ⟨_, v, G2, rfl, ⟨pb, cb, rfl, hb1, hb2, hrb, _⟩, hs2, hc2⟩ | ⟨hq, _⟩⟩
      rotate_left
      · exact absurd hg hq
      have hB5 := hB4.trans (hb5.mono hB4.size)
      have hAM : AllMay m C0 := fun j hj => (hg.1.2.2.2.2 j hj).1
      have HRA := Lib.hid (hra.below hb5)
      have HRB : Hid (Row w5 pb m 1 (fun i _ => .int .i64 (G1 i))) := row_change hrb (fun i hi j hj => by rw [sameD hAM hs2 hc2 hs1 hc1 hi])
      have HG := Lib.hid hg
      have m0 := below_cell hb5 k0
      have m1 := below_cell hb5 k1
      have m2 := below_cell hb5 k2
      have m3 := below_cell hb5 k3
      have m4 := below_cell hb5 k4
      have m5 := below_cell hb5 k5
      clear k0 k1 k2 k3 k4 k5
      clear hs1 hc1 hs2 hc2 hAM hra hrb hg hb5
      go_wp2_with fail
      (with_reducible refine (same_any (n := m) HRA.out HRB.out (by omega) (Below.refl _ _)).mono ?_)
      rintro e w6 ⟨rfl, hb6⟩
      have hB6 := hB5.trans (hb6.mono hB5.size)
      have n0 := below_cell hb6 m0
      have n1 := below_cell hb6 m1
      have n2 := below_cell hb6 m2
      have n3 := below_cell hb6 m3
      have n4 := below_cell hb6 m4
      have n5 := below_cell hb6 m5
      clear m0 m1 m2 m3 m4 m5
      go_wp2_with fail
      (with_reducible refine (check_any (fields := a1) m c0 d0 p0 q0 sv x0 y0 z0 us HLI.out hB6 hl1 hcap1 hmd hcap2 hsz (fun i h => Nat.le_trans (HOKT.out i h) (by omega)) HCD.out).mono ?_)
      rintro e w7 ⟨hb7, hch⟩
      have hB7 := hB6.trans (hb7.mono hB6.size)
      rcases hch with ⟨hq, rfl⟩ | ⟨hq, rfl⟩
      · go_wp2_with fail
        (with_reducible refine (lives_any _).mono ?_)
        rintro e w8 ⟨rfl, hb8⟩
        have hB8 := hB7.trans (hb8.mono hB7.size)
        go_wp2_with fail
        go_ret
        exact ⟨rfl, by (repeat' (first | (with_reducible exact Below.refl _ _) | (with_reducible assumption) | (with_reducible refine below_drewN ?_ _) | (with_reducible refine Below.alloc ?_ ?_ _) | (with_reducible refine Below.drew ?_) | (with_reducible refine Below.setCell ?_ ?_ _) | go_size))⟩
      · exact absurd HG.out hq
    · go_wp2_with fail
      (with_reducible refine (rdepths_any (fields := a1) m c0 d0 p0 q0 sv x0 y0 z0 us HLI.out hB4 hl1 hcap1 hmd hcap2 hsz HCD.out).mono ?_)
      rintro e w5 ⟨hb5, ⟨hq, _⟩ | ⟨_, rfl⟩⟩
      · exact absurd hq hg
      have hB5 := hB4.trans (hb5.mono hB4.size)
      have HG := Lib.hid hg
      have m0 := below_cell hb5 k0
      have m1 := below_cell hb5 k1
      have m2 := below_cell hb5 k2
      have m3 := below_cell hb5 k3
      have m4 := below_cell hb5 k4
      have m5 := below_cell hb5 k5
      clear k0 k1 k2 k3 k4 k5
      clear hg hb5
      go_wp2_with fail
      (with_reducible refine (same_any (n := 0) (row_none (w := w5) (fun _ => 0)) (row_none (w := w5) (fun _ => 0)) (by omega) (Below.refl _ _)).mono ?_)
      rintro e w6 ⟨rfl, hb6⟩
      have hB6 := hB5.trans (hb6.mono hB5.size)
      have n0 := below_cell hb6 m0
      have n1 := below_cell hb6 m1
      have n2 := below_cell hb6 m2
      have n3 := below_cell hb6 m3
      have n4 := below_cell hb6 m4
      have n5 := below_cell hb6 m5
      clear m0 m1 m2 m3 m4 m5
      go_wp2_with fail
      (with_reducible refine (check_any (fields := a1) m c0 d0 p0 q0 sv x0 y0 z0 us HLI.out hB6 hl1 hcap1 hmd hcap2 hsz (fun i h => Nat.le_trans (HOKT.out i h) (by omega)) HCD.out).mono ?_)
      rintro e w7 ⟨hb7, hch⟩
      have hB7 := hB6.trans (hb7.mono hB6.size)
      rcases hch with ⟨hq, rfl⟩ | ⟨hq, rfl⟩
      · exact absurd hq HG.out
      · go_wp2_with fail
        (with_reducible refine (lives_any _).mono ?_)
        rintro e w8 ⟨rfl, hb8⟩
        have hB8 := hB7.trans (hb8.mono hB7.size)
        go_wp2_with fail
        go_ret
        exact ⟨rfl, by (repeat' (first | (with_reducible exact Below.refl _ _) | (with_reducible assumption) | (with_reducible refine below_drewN ?_ _) | (with_reducible refine Below.alloc ?_ ?_ _) | (with_reducible refine Below.drew ?_) | (with_reducible refine Below.setCell ?_ ?_ _) | go_size))⟩


/-! ### the row's step -/
set_option maxRecDepth 100000 in
theorem lifted (os : Os) (started : os.Started) (H : Type) (enc : TypeId × Value → H) :
    ReturnsInHanded {} Try.checked os 3 .any (Rows.verifyChecksSpec.pre6 enc Try.prog Try.f3 Rows.verifyChecksRow.domain false) (Rows.verifyChecksSpec.post enc Try.prog Try.f3 false true false false) := by
  refine returnsInHanded_of_change (C := Try.checked) own started (by kernel_rfl) Try.func3
    (ChangeSpec.witness6 (enc := enc) (C := Try.checked) false ⟨#[], #[.agg #[.string ⟨#[]⟩, .int .i64 0, .int .i64 0, .int .i64 0, .slice none 0 0, .slice none 0 0], .int .i64 0], []⟩ 8 (by kernel_rfl) (by kernel_rfl) (by kernel_rfl) (by kernel_rfl)) ?_
  intro W base args ds gs before hval0 hW hcnd _
  have hval : ∀ (j : Nat) t v, Try.f3.params[j]? = some t → args[j]? = some v → Value.okWide Try.prog W .any base t v := hval0
  have hW' := hW
  obtain ⟨p, q, hA0, hV, rfl, hfz, hnd⟩ := hW
  have hA : DataW.TrodAll enc Try.prog W 0 (fun _ => true) true Try.f3.params.toList args.toList ds p := hA0
  rw [Try.params3] at hA hval
  obtain ⟨v0, vs0, d0, ds0, p0, q0, hargs, rfl, rfl, h0, r0⟩ := trodAll_cons hA
  obtain ⟨v1, vs1, d1, ds1, p1, q1, rfl, rfl, rfl, h1, r1⟩ := trodAll_cons r0
  obtain ⟨rfl, rfl, rfl⟩ := trodAll_nil r1
  obtain rfl : args = #[v0, v1] := by cases args; simp_all
  obtain ⟨rfl, rfl⟩ := trodVars_none hV
  have k0 := h0
  have lt0 : ∀ x ∈ p0, x.block < W.heap.size := by obtain ⟨m, hm⟩ := k0; exact DataW.trod_lt m _ _ _ hm
  obtain ⟨s0, x0, y0, z0, LA0, us0, lc0, CA0, cn0, cc0, F0, C0, rfl, R0⟩ := open_method (hval 0 25 v0 rfl rfl) h0
  obtain ⟨a1, rfl, rfl, rfl, w1⟩ := open_int Try.underlying3 (hval 1 3 v1 rfl rfl) h1
  clear hA0 hval0
  refine (walk W _ _ _ _ _ _ _ _ _ _ _ _ R0 _).mono fun e W' ⟨he, bel⟩ => ?_
  subst he
  exact ⟨_, rfl, _, _, _, [], _, [], hW', trodAll_mk1 (shut_bool Try.underlying4 _), (trodAll_cons_mk (Below.trod laidOut (by kernel_rfl) (of_decide_eq_true (by kernel_rfl)) k0 bel lt0) (trodAll_cons_mk (shut_int Try.underlying3 w1) trodAll_mk0)), rfl, bel.frame _, fun h => by cases h⟩

theorem over : Rows.verifyChecksRow.holds Try.pinned (OpenSpec.ofChange Rows.verifyChecksSpec) :=
  OpenClaim.holds_of_wide 3 Try.f3 rfl rfl rfl rfl rfl rfl rfl ⟨rfl, rfl, rfl, rfl, rfl⟩ rfl rfl rfl rfl rfl (by kernel_rfl) Try.func3 (by kernel_rfl)
    (of_decide_eq_true (by kernel_rfl)) (by unfold Func.isWrapper; first | (rw [if_pos (by decide +kernel)]; kernel_rfl) | (rw [if_neg (by decide +kernel)]; exact ⟨rfl, rfl⟩))
    (fun os started H enc _ => lifted os started H enc)

theorem proved : Rows.VerifyChecksSaid := over
end Go.Proofs.Ytnjfjebmkajpbaa.verifyChecks

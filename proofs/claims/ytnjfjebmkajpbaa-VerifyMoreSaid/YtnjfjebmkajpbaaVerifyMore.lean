/- The law VerifyMore of chapter 11 holds for every input: it returns true, and its arguments stay. No conditions. -/
import Derived.Test.YtnjfjebmkajpbaaRows
import Derived.Test.YtnjfjebmkajpbaaO4
import Derived.Test.YtnjfjebmkajpbaaM2
import Derived.WalkKit
import Derived.ProofKit
import Derived.OpenShut
import Derived.ChangeOld
import Derived.Below
namespace Go.Proofs.Ytnjfjebmkajpbaa.verifyMore
open Go.ChangeShapes Go.WideShapes Go.ChangeAt Go.RowKit
set_option linter.unusedVariables false
set_option linter.unusedSimpArgs false

theorem own : ownKnob Try.prog.godebug = none := by kernel_rfl
theorem laidOut : laidOutB Try.prog = true := by kernel_rfl

set_option maxRecDepth 100000 in
set_option maxHeartbeats 40000000 in
theorem walk (w : World) (s0 : ByteArray) (x0 y0 z0 : Int) (p0 q0 : Option Addr) (ts0 : List LitT) (c0 n0 d0 : Nat) (F0 : Nat → Nat → Value) (C0 : Nat → Ins) (R0 : RawM w s0 p0 c0 F0 ts0 q0 n0 d0 C0) (a1 : Int) (a2 : Int) (r2_ : -9223372036854775808 ≤ a2 ∧ a2 ≤ 9223372036854775807) (a3 : Int) (r3_ : -9223372036854775808 ≤ a3 ∧ a3 ≤ 9223372036854775807) :
    Calls Try.prog 6 #[.agg #[.string s0, .int .i64 x0, .int .i64 y0, .int .i64 z0, .slice p0 ts0.length c0, .slice q0 n0 d0], .int .i64 a1, .int .i64 a2, .int .i64 a3] w fun e w' => e = .returned (.bool true) ∧ Below w.heap.size w w' := by
  have hB1 : Below w.heap.size w (w.alloc (.cells #[.string s0, .int .i64 x0, .int .i64 y0, .int .i64 z0, .slice p0 ts0.length c0, .slice q0 n0 d0] 25)) := (Below.refl _ _).alloc (Nat.le_refl _) _
  have hfew := few_any (args := x0) (temps := y0) (prim := z0) R0 (w.alloc (.cells #[.string s0, .int .i64 x0, .int .i64 y0, .int .i64 z0, .slice p0 ts0.length c0, .slice q0 n0 d0] 25)) hB1
  obtain ⟨us, hus⟩ : ∃ us, ts0.take (cutN ts0.length 70) = us := ⟨_, rfl⟩
  have hul : us.length = cutN ts0.length 70 := by rw [← hus]; have := cutN_le ts0.length 70; simp; omega
  have hli := R0.lits.take (cutN ts0.length 70) (cutN_le _ _).1
  rw [hus] at hfew hli
  rw [← hul] at hfew
  obtain ⟨sv, hsv⟩ : ∃ sv, cutS s0 80 = sv := ⟨_, rfl⟩
  obtain ⟨m, hm⟩ : ∃ m, cutN n0 420 = m := ⟨_, rfl⟩
  rw [hsv, hm] at hfew
  have hsz : sv.size ≤ 9223372036854775807 := by rw [← hsv]; have := cutS_size s0 80; have := R0.sel; omega
  have hm1 := cutN_le n0 420
  rw [hm] at hm1
  have hcd : IsCode w q0 m C0 := Row.less R0.code.row hm1.1
  have hlc : us.length ≤ c0 ∧ us.length ≤ 70 := by have := R0.le; have := cutN_le ts0.length 70; omega
  have hmd : m ≤ d0 := by have := R0.code.le; omega
  have hm2 : m ≤ 420 := hm1.2
  have hl1 := hlc.1
  have hl2 := hlc.2
  have hcap1 := R0.cap
  have hcap2 := R0.code.cap
  have HFEW := Lib.hid hfew
  have HLI := Lib.hid hli
  have HCD := Lib.hid hcd
  clear hfew hli hcd hus hul hsv hm hm1 hlc R0
  go_enter Try.func6, Try.ntmps6
  go_wp2_with fail
  (with_reducible refine HFEW.out.mono ?_)
  rintro e w2 ⟨ok, rfl, hok, hb2⟩
  have hbw2 := hB1.trans (hb2.mono hB1.size)
  have hz2 : w.heap.size < w2.heap.size := Nat.lt_of_lt_of_le (by go_size) hb2.size
  have c0_ : w2.cell? ⟨w.heap.size, 0, none⟩ = some (.string s0) := (hb2.cell (p := ⟨w.heap.size, 0, none⟩) (by go_size)).trans (by simp [go_sem])
  have c1_ : w2.cell? ⟨w.heap.size, 1, none⟩ = some (.int .i64 x0) := (hb2.cell (p := ⟨w.heap.size, 1, none⟩) (by go_size)).trans (by simp [go_sem])
  have c2_ : w2.cell? ⟨w.heap.size, 2, none⟩ = some (.int .i64 y0) := (hb2.cell (p := ⟨w.heap.size, 2, none⟩) (by go_size)).trans (by simp [go_sem])
  have c3_ : w2.cell? ⟨w.heap.size, 3, none⟩ = some (.int .i64 z0) := (hb2.cell (p := ⟨w.heap.size, 3, none⟩) (by go_size)).trans (by simp [go_sem])
  have c4_ : w2.cell? ⟨w.heap.size, 4, none⟩ = some (.slice p0 ts0.length c0) := (hb2.cell (p := ⟨w.heap.size, 4, none⟩) (by go_size)).trans (by simp [go_sem])
  have c5_ : w2.cell? ⟨w.heap.size, 5, none⟩ = some (.slice q0 n0 d0) := (hb2.cell (p := ⟨w.heap.size, 5, none⟩) (by go_size)).trans (by simp [go_sem])
  have f0_ : w2.frozen? ⟨w.heap.size, 0, none⟩ = false := (hb2.frozen (p := ⟨w.heap.size, 0, none⟩) (by go_size)).trans (by simp [go_sem])
  have f1_ : w2.frozen? ⟨w.heap.size, 1, none⟩ = false := (hb2.frozen (p := ⟨w.heap.size, 1, none⟩) (by go_size)).trans (by simp [go_sem])
  have f2_ : w2.frozen? ⟨w.heap.size, 2, none⟩ = false := (hb2.frozen (p := ⟨w.heap.size, 2, none⟩) (by go_size)).trans (by simp [go_sem])
  have f3_ : w2.frozen? ⟨w.heap.size, 3, none⟩ = false := (hb2.frozen (p := ⟨w.heap.size, 3, none⟩) (by go_size)).trans (by simp [go_sem])
  have f4_ : w2.frozen? ⟨w.heap.size, 4, none⟩ = false := (hb2.frozen (p := ⟨w.heap.size, 4, none⟩) (by go_size)).trans (by simp [go_sem])
  have f5_ : w2.frozen? ⟨w.heap.size, 5, none⟩ = false := (hb2.frozen (p := ⟨w.heap.size, 5, none⟩) (by go_size)).trans (by simp [go_sem])
  have HOK := Lib.hid hok
  clear hok hB1 hb2 HFEW
  cases ok
  · go_wp2_with (go_at_call 8; (with_reducible refine (lives_any _).mono ?_); rintro e w4 ⟨rfl, hb4⟩)
    go_ret
    exact ⟨rfl, (show Below w.heap.size w _ by have h4 := (show Below w.heap.size w _ by (repeat' (first | (with_reducible exact Below.refl _ _) | (with_reducible assumption) | (with_reducible refine below_drewN ?_ _) | (with_reducible refine Below.alloc ?_ ?_ _) | (with_reducible refine Below.drew ?_) | (with_reducible refine Below.setCell ?_ ?_ _) | go_size))).trans (hb4.mono (by go_size)); (repeat' (first | (with_reducible exact Below.refl _ _) | (with_reducible assumption) | (with_reducible refine below_drewN ?_ _) | (with_reducible refine Below.alloc ?_ ?_ _) | (with_reducible refine Below.drew ?_) | (with_reducible refine Below.setCell ?_ ?_ _) | go_size)))⟩
  · have HOKT : Hid (∀ (i : Nat) (h : i < us.length), hgt us[i] ≤ 60) := HOK.out rfl
    clear HOK
    go_wp2_with fail
    (with_reducible refine (check_any (fields := a1) m c0 d0 p0 q0 sv x0 y0 z0 us HLI.out (by (repeat' (first | (with_reducible exact Below.refl _ _) | (with_reducible assumption) | (with_reducible refine below_drewN ?_ _) | (with_reducible refine Below.alloc ?_ ?_ _) | (with_reducible refine Below.drew ?_) | (with_reducible refine Below.setCell ?_ ?_ _) | go_size))) hl1 hcap1 hmd hcap2 hsz (fun i h => Nat.le_trans (HOKT.out i h) (by omega)) HCD.out).mono ?_)
    rintro e w4 ⟨hb4, hG⟩
    have hB4 : Below w.heap.size w w4 := (show Below w.heap.size w _ by (repeat' (first | (with_reducible exact Below.refl _ _) | (with_reducible assumption) | (with_reducible refine below_drewN ?_ _) | (with_reducible refine Below.alloc ?_ ?_ _) | (with_reducible refine Below.drew ?_) | (with_reducible refine Below.setCell ?_ ?_ _) | go_size))).trans (hb4.mono (by go_size))
    have k0 : w4.cell? ⟨w.heap.size, 0, none⟩ = some (.string sv) := (hb4.cell (p := ⟨w.heap.size, 0, none⟩) (by go_size)).trans (by simp [go_sem, c0_, c1_, c2_, c3_, c4_, c5_])
    have k1 : w4.cell? ⟨w.heap.size, 1, none⟩ = some (.int .i64 x0) := (hb4.cell (p := ⟨w.heap.size, 1, none⟩) (by go_size)).trans (by simp [go_sem, c0_, c1_, c2_, c3_, c4_, c5_])
    have k2 : w4.cell? ⟨w.heap.size, 2, none⟩ = some (.int .i64 y0) := (hb4.cell (p := ⟨w.heap.size, 2, none⟩) (by go_size)).trans (by simp [go_sem, c0_, c1_, c2_, c3_, c4_, c5_])
    have k3 : w4.cell? ⟨w.heap.size, 3, none⟩ = some (.int .i64 z0) := (hb4.cell (p := ⟨w.heap.size, 3, none⟩) (by go_size)).trans (by simp [go_sem, c0_, c1_, c2_, c3_, c4_, c5_])
    have k4 : w4.cell? ⟨w.heap.size, 4, none⟩ = some (.slice p0 us.length c0) := (hb4.cell (p := ⟨w.heap.size, 4, none⟩) (by go_size)).trans (by simp [go_sem, c0_, c1_, c2_, c3_, c4_, c5_])
    have k5 : w4.cell? ⟨w.heap.size, 5, none⟩ = some (.slice q0 m d0) := (hb4.cell (p := ⟨w.heap.size, 5, none⟩) (by go_size)).trans (by simp [go_sem, c0_, c1_, c2_, c3_, c4_, c5_])
    clear hb4 c0_ c1_ c2_ c3_ c4_ c5_ f0_ f1_ f2_ f3_ f4_ f5_
    have hz4 : w.heap.size < w4.heap.size := cell_lt k0
    rcases hG with ⟨hg, rfl⟩ | ⟨hg, rfl⟩
    rotate_left
    · go_wp2_with fail
      (with_reducible refine (lives_any _).mono ?_)
      rintro e w5 ⟨rfl, hb5⟩
      have hB5 := hB4.trans (hb5.mono hB4.size)
      go_wp2_with fail
      go_ret
      exact ⟨rfl, by (repeat' (first | (with_reducible exact Below.refl _ _) | (with_reducible assumption) | (with_reducible refine below_drewN ?_ _) | (with_reducible refine Below.alloc ?_ ?_ _) | (with_reducible refine Below.drew ?_) | (with_reducible refine Below.setCell ?_ ?_ _) | go_size))⟩
    have hhd : 0 ≤ x0 ∧ x0 ≤ y0 ∧ y0 ≤ 24 := by
      have h := hg.1.1
      unfold headB inB at h
      simp only [Bool.and_eq_true, decide_eq_true_eq] at h
      omega
    obtain ⟨hh1, hh2, hh3⟩ := hhd
    have HG := Lib.hid hg
    clear hg
    go_upto_if 29 with (fail)
    obtain ⟨w5, hw5⟩ : ∃ w5, w4.alloc (.cells #[.string sv, .int .i64 x0, .int .i64 y0, .int .i64 z0, .slice p0 us.length c0, .slice q0 m d0] 25) = w5 := ⟨_, rfl⟩
    have hbx : w5.heap[w4.heap.size]? = some (.cells #[.string sv, .int .i64 x0, .int .i64 y0, .int .i64 z0, .slice p0 us.length c0, .slice q0 m d0] 25 (0, 0)) := by rw [← hw5]; exact heap_alloc_new w4 _
    have hb5 : Below w4.heap.size w4 w5 := by rw [← hw5]; exact (Below.refl _ _).alloc (Nat.le_refl _) _
    have hz5 : w5.heap.size = w4.heap.size + 1 := by rw [← hw5]; simp
    rw [hw5]
    clear hw5
    have hB5 := hB4.trans (hb5.mono hB4.size)
    have m0 := below_cell hb5 k0
    have m1 := below_cell hb5 k1
    have m2 := below_cell hb5 k2
    have m3 := below_cell hb5 k3
    have m4 := below_cell hb5 k4
    have m5 := below_cell hb5 k5
    clear k0 k1 k2 k3 k4 k5
    obtain ⟨x0_, x1_, x2_, x3_, x4_, x5_⟩ := six_cells hbx
    have fz := any_free hbx
    have hz6 : w4.heap.size < w5.heap.size := by omega
    have HB45 := Lib.hid hb5
    have HB4 := Lib.hid hB4
    clear hb5 hz5
    obtain ⟨t2, ht2⟩ : ∃ t2 : Int, (if a2 < 0 then -(a2 + 1) else a2) = t2 := ⟨_, rfl⟩
    have ht20 : 0 ≤ t2 ∧ t2 ≤ 9223372036854775807 := by rw [← ht2]; split <;> omega
    have Ht2 := Lib.hid ht2
    clear ht2
    go_cut [2] (fun v wx => v = .int .i64 t2 ∧ w5 = wx)
    case first =>
      by_cases hn : a2 < 0
      · have hd : decide (a2 < 0) = true := decide_eq_true hn
        have FF : Hid (t2 = -(a2 + 1)) := by show _ = _; rw [← Ht2.out, if_pos hn]
        go_wp2_with fail
        go_meet
        exact ⟨by rw [FF.out], rfl⟩
      · have hd : decide (a2 < 0) = false := decide_eq_false hn
        have FF : Hid (t2 = a2) := by show _ = _; rw [← Ht2.out, if_neg hn]
        go_wp2_with fail
        go_meet
        exact ⟨by rw [FF.out], rfl⟩
    case' rest =>
      obtain ⟨rfl, rfl⟩ := hcut
      clear Ht2
    go_upto_if 34 with (fail)
    obtain ⟨t3, ht3⟩ : ∃ t3 : Int, (if a3 < 0 then -(a3 + 1) else a3) = t3 := ⟨_, rfl⟩
    have ht30 : 0 ≤ t3 ∧ t3 ≤ 9223372036854775807 := by rw [← ht3]; split <;> omega
    have Ht3 := Lib.hid ht3
    clear ht3
    go_cut [3] (fun v wx => v = .int .i64 t3 ∧ w5 = wx)
    case first =>
      by_cases hn : a3 < 0
      · have hd : decide (a3 < 0) = true := decide_eq_true hn
        have FF : Hid (t3 = -(a3 + 1)) := by show _ = _; rw [← Ht3.out, if_pos hn]
        go_wp2_with fail
        go_meet
        exact ⟨by rw [FF.out], rfl⟩
      · have hd : decide (a3 < 0) = false := decide_eq_false hn
        have FF : Hid (t3 = a3) := by show _ = _; rw [← Ht3.out, if_neg hn]
        go_wp2_with fail
        go_meet
        exact ⟨by rw [FF.out], rfl⟩
    case' rest =>
      obtain ⟨rfl, rfl⟩ := hcut
      clear Ht3
    obtain ⟨tt, htt⟩ : ∃ tt, t2 % 30 = tt := ⟨_, rfl⟩
    have htt0 : 0 ≤ tt ∧ tt ≤ 29 := by omega
    obtain ⟨ht1, ht2⟩ := htt0
    go_upto_region 10 with (fail)
    obtain ⟨yy, hyy⟩ : ∃ yy, y0 + tt = yy := ⟨_, rfl⟩
    have HYY := Lib.hid hyy
    rw [hyy]
    obtain ⟨w6, hw6⟩ : ∃ w6, w5.setCell ⟨w4.heap.size, 2, none⟩ (.int .i64 yy) = w6 := ⟨_, rfl⟩
    have hbx6 : w6.heap[w4.heap.size]? = some (.cells #[.string sv, .int .i64 x0, .int .i64 yy, .int .i64 z0, .slice p0 us.length c0, .slice q0 m d0] 25 (0, 0)) := by rw [← hw6, heap_setCell_same w5 w4.heap.size 2 _ _ _ hbx]; rfl
    have hb46 : Below w4.heap.size w4 w6 := by rw [← hw6]; exact HB45.out.setCell (Nat.le_refl _) _
    have q4 : w6.cell? ⟨w.heap.size, 4, none⟩ = some (.slice p0 us.length c0) := by rw [← hw6, World.cell?_setCell_other _ _ _ _ (by first | (simp; done) | (simp; omega))]; exact m4
    rw [hw6]
    obtain ⟨_, _, _, _, x4', _⟩ := six_cells hbx6
    have fz6 := any_free hbx6
    have hz66 := lt_of_block hbx6
    have HB46 := Lib.hid hb46
    have HBX6 := Lib.hid hbx6
    clear hw6 hbx x0_ x1_ x2_ x3_ x4_ x5_ fz hyy htt hb46 hbx6 m0 m1 m2 m3 m4 m5
    obtain ⟨i0, hi, hz0, hz1, hz2⟩ := info_parts infoL
    go_cut [] (fun wx => MoreR sv x0 yy z0 q0 m d0 us.length F0 w4 0 wx)
    case first =>
      have hnil := World.ownsRow_nil w6 (w4.heap.size + 1) 42 4
      have HNIL := Lib.hid hnil
      clear hnil
      have harr : us.length = 0 ∧ p0 = none ∨ ∃ ad : Addr, p0 = some ad ∧ ∀ (j : Nat) (u : Value), (rowsL us.length 4 F0)[j]? = some u → w6.cell? (ad.add j) = some u := by
        by_cases h0 : 0 < us.length
        · obtain ⟨b, off, e, hlt, hc⟩ := HLI.out.2.1 h0
          have hb06 : Below w.heap.size w w6 := HB4.out.trans (HB46.out.mono HB4.out.size)
          exact .inr ⟨⟨b, off, none⟩, e, rowsL_read (by decide) (fun i hi' j hj => (hb06.cell (p := ⟨b, off + i * 4 + j, none⟩) hlt).trans (hc i hi' j hj))⟩
        · have h0' : us.length = 0 := by omega
          cases p0 with
          | none => exact .inl ⟨h0', rfl⟩
          | some ad => exact .inr ⟨ad, rfl, fun j u hu => by rw [h0'] at hu; simp [rowsL] at hu⟩
      rcases harr with ⟨h0, rfl⟩ | ⟨ad, rfl, hread⟩
      · have HH0 := Lib.hid h0
        rw [h0] at q4
        clear h0
        go_wp2_with fail
        go_meet
        exact more_zero HBX6.out HNIL.out HB46.out HH0.out
      · have hone := rowsL_one (size := 4) (F := F0) (lit_one HLI.out)
        have HREAD := Lib.hid hread
        have HONE := Lib.hid hone
        clear hread hone
        go_wp2_with (at_builtin; refine wpList_append_own _ rfl _ _ 22 rfl (w4.heap.size + 1) 42 i0 (.agg #[.int .i64 0, .string ⟨#[]⟩, .int .i64 0, .slice none 0 0]) 4 56 Try.underlying22 hi hz0 hz1 hz2 rfl (by decide) _ _ _ rfl HNIL.out ad us.length c0 (rowsL us.length 4 F0) rfl (rowsL_len _ _ _) HREAD.out HONE.out (by unfold maxLen; omega) (by omega) (by omega) ?_; intro v2 w7 hown7 hg7 _; obtain ⟨A2, cc2, rfl⟩ := own_slice hown7; have hbx7 := (hg7.block w4.heap.size hz66 (show some w4.heap.size ≠ (Value.slice none 0 0).ownBlock by simp [Value.ownBlock])).trans HBX6.out; have fz7 := any_free hbx7; obtain ⟨_, _, _, _, z4, _⟩ := six_cells hbx7)
        go_meet
        exact more_start HBX6.out HNIL.out hg7 (by simpa using hown7) HB46.out
    case' rest =>
    have HM0 := Lib.hid hcut
    clear hcut
    obtain ⟨ll, hll, hll2⟩ : ∃ ll : Nat, t3 % 70 = (ll : Int) ∧ ll ≤ 69 := ⟨(t3 % 70).toNat, by omega, by omega⟩
    clear x4' fz6 hz66 HBX6 HB46
    go_wp2_with fail
    go_loopw [11] (fun i wr => ∃ k : Nat, k ≤ ll ∧ i = .int .i64 k ∧ MoreR sv x0 yy z0 q0 m d0 us.length F0 w4 k wr) (fun i _ => ll - (intOf i).toNat)
    case atStart => exact ⟨0, Nat.zero_le _, rfl, HM0.out⟩
    case round =>
      clear HM0
      obtain ⟨k, hk, rfl, v, hbx, hown, hbw⟩ := hrel
      obtain ⟨A, cA, rfl⟩ := own_slice hown
      have HBX := Lib.hid hbx
      have HOWN := Lib.hid hown
      have HBW := Lib.hid hbw
      obtain ⟨x0_, x1_, x2_, x3_, x4_, x5_⟩ := six_cells hbx
      have fz := any_free hbx
      have hzb := lt_of_block hbx
      by_cases hlt : k < ll
      · have d1 : decide (k < ll) = true := decide_eq_true hlt
        have d2 : decide ((k : Int) < (ll : Int)) = true := decide_eq_true (by omega)
        have hbxa : ∀ o, (wr.alloc o).heap[w4.heap.size]? = some _ := fun o => (((Below.refl wr.heap.size wr).alloc (Nat.le_refl _) o).block _ hzb).trans hbx
        have HBXA := Lib.hid hbxa
        clear hbxa hbx hown hbw
        go_wp2_with (at_builtin; refine wpList_append_own _ rfl _ _ 22 rfl (w4.heap.size + 1) 42 i0 (.agg #[.int .i64 0, .string ⟨#[]⟩, .int .i64 0, .slice none 0 0]) 4 56 Try.underlying22 hi hz0 hz1 hz2 rfl (by decide) _ _ _ rfl (HOWN.out.alloc _) ⟨wr.heap.size, 0, none⟩ 1 1 [.int .i64 1, .string ⟨#[]⟩, .int .i64 (k : Int), .slice none 0 0] rfl rfl (cells_newN _ _ _ _ (by simp)) (by simp [Value.oneCell']) (by unfold maxLen; omega) (by omega) (by simp only [World.size_alloc]; omega) ?_; intro v2 w7 hown7 hg7 _; obtain ⟨A2, cc2, rfl⟩ := own_slice hown7; have hbx7 := (hg7.block w4.heap.size (by simp; omega) (fun q => by have := (HOWN.out.lt _ q.symm).1; omega)).trans (HBXA.out _); have fz7 := any_free hbx7; obtain ⟨_, _, _, _, z4, _⟩ := six_cells hbx7)
        go_roundw
        case rel => exact ⟨k + 1, by omega, by go_num, more_go _ HBX.out HOWN.out HBW.out hg7 hown7 (by omega) rfl⟩
        case measure => simp [intOf]; omega
      · have hkn : k = ll := by omega
        have d1 : decide (k < ll) = false := decide_eq_false hlt
        have d2 : decide ((k : Int) < (ll : Int)) = false := decide_eq_false (by omega)
        clear hlt
        subst hkn
        have hBr : Below w.heap.size w wr := HB4.out.trans (hbw.mono HB4.out.size)
        obtain ⟨A', c', eA, hA1, hA2, hrow⟩ := own_rows hown
        obtain ⟨rfl, rfl⟩ : A = A' ∧ cA = c' := by cases eA; exact ⟨rfl, rfl⟩
        have hlits := more_lits HLI.out hBr k (by rw [more_len]; exact hrow)
        have hml := more_len us k
        have hck := check_any (fields := a1) m cA d0 A q0 sv x0 yy z0 (moreT us k) hlits (Below.refl _ _) (by rw [hml]; exact hA1) hA2 hmd hcap2 hsz (fun i h => Nat.le_trans (more_hgt HOKT.out (by omega) i h) (by omega)) (Row.below HCD.out hBr)
        rw [hml] at hck
        have hgood := more_good (t := tt) (k := k) HG.out ht1 (by omega)
        rw [HYY.out] at hgood
        have HCK := Lib.hid hck
        have HGOOD := Lib.hid hgood
        have HBR := Lib.hid hBr
        obtain ⟨mb, hmb⟩ : ∃ mb, (decide (yy ≤ 24) && decide (us.length + k ≤ 60)) = mb := ⟨_, rfl⟩
        have HMB := Lib.hid hmb
        clear hmb hck hgood hlits hml hrow eA hown hbx hbw hBr
        go_upto_region 15 with (fail)
        go_cut [12] (fun v wx => v = .bool mb ∧ wr = wx)
        case first =>
          by_cases h1 : yy ≤ 24
          · have e1 : decide (yy ≤ 24) = true := decide_eq_true h1
            by_cases h2 : us.length + k ≤ 60
            · have e2 : decide (us.length + k ≤ 60) = true := decide_eq_true h2
              have e3 : decide ((us.length : Int) + (k : Int) ≤ 60) = true := decide_eq_true (by omega)
              have FF : Hid (mb = true) := by show _ = _; rw [← HMB.out, e1, e2]; rfl
              go_wp2_with fail
              go_meet
              exact ⟨by rw [FF.out], rfl⟩
            · have e2 : decide (us.length + k ≤ 60) = false := decide_eq_false h2
              have e3 : decide ((us.length : Int) + (k : Int) ≤ 60) = false := decide_eq_false (by omega)
              have FF : Hid (mb = false) := by show _ = _; rw [← HMB.out, e1, e2]; rfl
              go_wp2_with fail
              go_meet
              exact ⟨by rw [FF.out], rfl⟩
          · have e1 : decide (yy ≤ 24) = false := decide_eq_false h1
            have FF : Hid (mb = false) := by show _ = _; rw [← HMB.out, e1]; rfl
            go_wp2_with fail
            go_meet
            exact ⟨by rw [FF.out], rfl⟩
        case rest =>
          obtain ⟨rfl, rfl⟩ := hcut
          cases mb
          · have HNG : Hid (¬ GoodM sv x0 yy z0 a1 (moreT us k) m C0) := fun h => by
              have := HGOOD.out.1 h
              have h2 := HMB.out
              rw [decide_eq_true this.1, decide_eq_true this.2] at h2; cases h2
            go_wp2_with fail
            (with_reducible refine HCK.out.mono ?_)
            rintro e w9 ⟨hb9, ⟨hq, rfl⟩ | ⟨hq, rfl⟩⟩
            · exact absurd hq HNG.out
            have hB9 := HBR.out.trans (hb9.mono HBR.out.size)
            go_wp2_with fail
            (with_reducible refine (lives_any _).mono ?_)
            rintro e w10 ⟨rfl, hb10⟩
            have hB10 := hB9.trans (hb10.mono hB9.size)
            go_wp2_with fail
            go_ret
            exact ⟨rfl, by (repeat' (first | (with_reducible exact Below.refl _ _) | (with_reducible assumption) | (with_reducible refine below_drewN ?_ _) | (with_reducible refine Below.alloc ?_ ?_ _) | (with_reducible refine Below.drew ?_) | (with_reducible refine Below.setCell ?_ ?_ _) | go_size))⟩
          · have HYG : Hid (GoodM sv x0 yy z0 a1 (moreT us k) m C0) := HGOOD.out.2 (by have h2 := HMB.out; simpa using h2)
            go_wp2_with fail
            (with_reducible refine HCK.out.mono ?_)
            rintro e w9 ⟨hb9, ⟨hq, rfl⟩ | ⟨hq, rfl⟩⟩
            rotate_left
            · exact absurd HYG.out hq
            have hB9 := HBR.out.trans (hb9.mono HBR.out.size)
            go_wp2_with fail
            (with_reducible refine (lives_any _).mono ?_)
            rintro e w10 ⟨rfl, hb10⟩
            have hB10 := hB9.trans (hb10.mono hB9.size)
            go_wp2_with fail
            go_ret
            exact ⟨rfl, by (repeat' (first | (with_reducible exact Below.refl _ _) | (with_reducible assumption) | (with_reducible refine below_drewN ?_ _) | (with_reducible refine Below.alloc ?_ ?_ _) | (with_reducible refine Below.drew ?_) | (with_reducible refine Below.setCell ?_ ?_ _) | go_size))⟩


/-! ### the row's step -/
set_option maxRecDepth 100000 in
theorem lifted (os : Os) (started : os.Started) (H : Type) (enc : TypeId × Value → H) :
    ReturnsInHanded {} Try.checked os 6 .any (Rows.verifyMoreSpec.pre6 enc Try.prog Try.f6 Rows.verifyMoreRow.domain false) (Rows.verifyMoreSpec.post enc Try.prog Try.f6 false true false false) := by
  refine returnsInHanded_of_change (C := Try.checked) own started (by kernel_rfl) Try.func6
    (ChangeSpec.witness6 (enc := enc) (C := Try.checked) false ⟨#[], #[.agg #[.string ⟨#[]⟩, .int .i64 0, .int .i64 0, .int .i64 0, .slice none 0 0, .slice none 0 0], .int .i64 0, .int .i64 0, .int .i64 0], []⟩ 8 (by kernel_rfl) (by kernel_rfl) (by kernel_rfl) (by kernel_rfl)) ?_
  intro W base args ds gs before hval0 hW hcnd _
  have hval : ∀ (j : Nat) t v, Try.f6.params[j]? = some t → args[j]? = some v → Value.okWide Try.prog W .any base t v := hval0
  have hW' := hW
  obtain ⟨p, q, hA0, hV, rfl, hfz, hnd⟩ := hW
  have hA : DataW.TrodAll enc Try.prog W 0 (fun _ => true) true Try.f6.params.toList args.toList ds p := hA0
  rw [Try.params6] at hA hval
  obtain ⟨v0, vs0, d0, ds0, p0, q0, hargs, rfl, rfl, h0, r0⟩ := trodAll_cons hA
  obtain ⟨v1, vs1, d1, ds1, p1, q1, rfl, rfl, rfl, h1, r1⟩ := trodAll_cons r0
  obtain ⟨v2, vs2, d2, ds2, p2, q2, rfl, rfl, rfl, h2, r2⟩ := trodAll_cons r1
  obtain ⟨v3, vs3, d3, ds3, p3, q3, rfl, rfl, rfl, h3, r3⟩ := trodAll_cons r2
  obtain ⟨rfl, rfl, rfl⟩ := trodAll_nil r3
  obtain rfl : args = #[v0, v1, v2, v3] := by cases args; simp_all
  obtain ⟨rfl, rfl⟩ := trodVars_none hV
  have k0 := h0
  have lt0 : ∀ x ∈ p0, x.block < W.heap.size := by obtain ⟨m, hm⟩ := k0; exact DataW.trod_lt m _ _ _ hm
  obtain ⟨s0, x0, y0, z0, LA0, us0, lc0, CA0, cn0, cc0, F0, C0, rfl, R0⟩ := open_method (hval 0 25 v0 rfl rfl) h0
  obtain ⟨a1, rfl, rfl, rfl, w1⟩ := open_int Try.underlying3 (hval 1 3 v1 rfl rfl) h1
  obtain ⟨a2, rfl, rfl, rfl, w2⟩ := open_int Try.underlying3 (hval 2 3 v2 rfl rfl) h2
  obtain ⟨a3, rfl, rfl, rfl, w3⟩ := open_int Try.underlying3 (hval 3 3 v3 rfl rfl) h3
  clear hA0 hval0
  refine (walk W _ _ _ _ _ _ _ _ _ _ _ _ R0 _ _ (bounds_i64 w2) _ (bounds_i64 w3)).mono fun e W' ⟨he, bel⟩ => ?_
  subst he
  exact ⟨_, rfl, _, _, _, [], _, [], hW', trodAll_mk1 (shut_bool Try.underlying4 _), (trodAll_cons_mk (Below.trod laidOut (by kernel_rfl) (of_decide_eq_true (by kernel_rfl)) k0 bel lt0) (trodAll_cons_mk (shut_int Try.underlying3 w1) (trodAll_cons_mk (shut_int Try.underlying3 w2) (trodAll_cons_mk (shut_int Try.underlying3 w3) trodAll_mk0)))), rfl, bel.frame _, fun h => by cases h⟩

theorem over : Rows.verifyMoreRow.holds Try.pinned (OpenSpec.ofChange Rows.verifyMoreSpec) :=
  OpenClaim.holds_of_wide 6 Try.f6 rfl rfl rfl rfl rfl rfl rfl ⟨rfl, rfl, rfl, rfl, rfl⟩ rfl rfl rfl rfl rfl (by kernel_rfl) Try.func6 (by kernel_rfl)
    (of_decide_eq_true (by kernel_rfl)) (by unfold Func.isWrapper; first | (rw [if_pos (by decide +kernel)]; kernel_rfl) | (rw [if_neg (by decide +kernel)]; exact ⟨rfl, rfl⟩))
    (fun os started H enc _ => lifted os started H enc)

theorem proved : Rows.VerifyMoreSaid := over
end Go.Proofs.Ytnjfjebmkajpbaa.verifyMore

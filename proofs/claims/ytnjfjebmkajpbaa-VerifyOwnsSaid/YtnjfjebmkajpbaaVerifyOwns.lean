/- The law VerifyOwns of chapter 11 holds for every input: it returns true, and its arguments stay. No conditions. -/
import Derived.Test.YtnjfjebmkajpbaaRows
import Derived.Test.YtnjfjebmkajpbaaO4
import Derived.Test.YtnjfjebmkajpbaaQ2
import Derived.Test.YtnjfjebmkajpbaaM1
import Derived.Test.YtnjfjebmkajpbaaM2
import Derived.WalkKit
import Derived.ProofKit
import Derived.OpenShut
import Derived.ChangeOld
import Derived.Below
namespace Go.Proofs.Ytnjfjebmkajpbaa.verifyOwns
open Go.ChangeShapes Go.WideShapes Go.ChangeAt Go.RowKit
set_option linter.unusedVariables false
set_option linter.unusedSimpArgs false

theorem own : ownKnob Try.prog.godebug = none := by kernel_rfl
theorem laidOut : laidOutB Try.prog = true := by kernel_rfl
theorem row_none {w : World} (F : Nat → Int) : Row w none 0 1 (fun i _ => .int .i64 (F i)) := fun h => absurd h (by omega)
theorem ins_one (i : Ins) : ∀ j, (insCell i j).oneCell' = true
  | 0 => rfl
  | 1 => rfl
  | _ + 2 => rfl
/-- a row of ints that is written over -/
structure SevenR (p : Option Addr) (n : Nat) (w4 wr : World) : Prop where
  bel : Below w4.heap.size w4 wr
  row : 0 < n → ∃ b off, p = some ⟨b, off, none⟩ ∧ w4.heap.size ≤ b ∧ (∀ j, j < n → ∃ x, wr.cell? ⟨b, off + j, none⟩ = some x) ∧ ∀ j, wr.frozen? ⟨b, j, none⟩ = false
theorem SevenR.put {n : Nat} {w4 wr : World} {b off : Nat} (h : SevenR (some ⟨b, off, none⟩) n w4 wr) (hn : 0 < n) (k : Nat) (x : Value) : SevenR (some ⟨b, off, none⟩) n w4 (wr.setCell ⟨b, off + k, none⟩ x) := by
  obtain ⟨b', off', e, hb, hc, hf⟩ := h.row hn
  cases e
  refine ⟨h.bel.setCell hb _, fun _ => ⟨b, off, rfl, hb, fun j hj => ?_, fun j => by rw [World.frozen?_setCell]; exact hf j⟩⟩
  obtain ⟨y, hy⟩ := hc j hj
  by_cases hjk : j = k
  · refine ⟨x, ?_⟩
    rw [hjk] at hy ⊢
    exact World.cell?_setCell_same _ _ _ hy
  · exact ⟨y, by rw [World.cell?_setCell_other _ _ _ _ (by first | (simp; done) | (simp; omega))]; exact hy⟩
theorem seven_start {p : Option Addr} {n : Nat} {w4 w5 : World} {F : Nat → Int} (hb : Below w4.heap.size w4 w5) (hr : Row w5 p n 1 (fun i _ => .int .i64 (F i))) (hf : ∀ b off, p = some ⟨b, off, none⟩ → w4.heap.size ≤ b ∧ ∀ j, w5.frozen? ⟨b, j, none⟩ = false) : SevenR p n w4 w5 := by
  refine ⟨hb, fun hn => ?_⟩
  obtain ⟨b, off, e, hlt, hc⟩ := hr hn
  exact ⟨b, off, e, (hf b off e).1, fun j hj => ⟨_, by have := hc j hj 0 (by omega); simpa using this⟩, (hf b off e).2⟩

set_option maxRecDepth 100000 in
set_option maxHeartbeats 40000000 in
theorem walk (w : World) (s0 : ByteArray) (x0 y0 z0 : Int) (p0 q0 : Option Addr) (ts0 : List LitT) (c0 n0 d0 : Nat) (F0 : Nat → Nat → Value) (C0 : Nat → Ins) (R0 : RawM w s0 p0 c0 F0 ts0 q0 n0 d0 C0) (a1 : Int) :
    Calls Try.prog 5 #[.agg #[.string s0, .int .i64 x0, .int .i64 y0, .int .i64 z0, .slice p0 ts0.length c0, .slice q0 n0 d0], .int .i64 a1] w fun e w' => e = .returned (.bool true) ∧ Below w.heap.size w w' := by
  have hB1 : Below w.heap.size w (w.alloc (.cells #[.string s0, .int .i64 x0, .int .i64 y0, .int .i64 z0, .slice p0 ts0.length c0, .slice q0 n0 d0] 25)) := (Below.refl _ _).alloc (Nat.le_refl _) _
  have hfew := few_any (args := x0) (temps := y0) (prim := z0) R0 (w.alloc (.cells #[.string s0, .int .i64 x0, .int .i64 y0, .int .i64 z0, .slice p0 ts0.length c0, .slice q0 n0 d0] 25)) hB1
  obtain ⟨us, hus⟩ : ∃ us, ts0.take (cutN ts0.length 70) = us := ⟨_, rfl⟩
  have hul : us.length = cutN ts0.length 70 := by rw [← hus]; have := cutN_le ts0.length 70; simp; omega
  have hli := R0.lits.take (cutN ts0.length 70) (cutN_le _ _).1
  rw [hus] at hfew hli
  rw [← hul] at hfew
  obtain ⟨sv, hsv⟩ : ∃ sv, cutS s0 80 = sv := ⟨_, rfl⟩
  obtain ⟨m, hm⟩ : ∃ m, cutN n0 420 = m := ⟨_, rfl⟩
  rw [hsv, hm] at hfew
  have hsz : sv.size ≤ 9223372036854775807 := by rw [← hsv]; have := cutS_size s0 80; have := R0.sel; omega
  have hm1 := cutN_le n0 420
  rw [hm] at hm1
  have hcd : IsCode w q0 m C0 := Row.less R0.code.row hm1.1
  have hlc : us.length ≤ c0 ∧ us.length ≤ 70 := by have := R0.le; have := cutN_le ts0.length 70; omega
  have hmd : m ≤ d0 := by have := R0.code.le; omega
  have hm2 : m ≤ 420 := hm1.2
  have hl1 := hlc.1
  have hl2 := hlc.2
  have hcap1 := R0.cap
  have hcap2 := R0.code.cap
  have HFEW := Lib.hid hfew
  have HLI := Lib.hid hli
  have HCD := Lib.hid hcd
  clear hfew hli hcd hus hul hsv hm hm1 hlc R0
  go_enter Try.func5, Try.ntmps5
  go_wp2_with fail
  (with_reducible refine HFEW.out.mono ?_)
  rintro e w2 ⟨ok, rfl, hok, hb2⟩
  have hbw2 := hB1.trans (hb2.mono hB1.size)
  have hz2 : w.heap.size < w2.heap.size := Nat.lt_of_lt_of_le (by go_size) hb2.size
  have c0_ : w2.cell? ⟨w.heap.size, 0, none⟩ = some (.string s0) := (hb2.cell (p := ⟨w.heap.size, 0, none⟩) (by go_size)).trans (by simp [go_sem])
  have c1_ : w2.cell? ⟨w.heap.size, 1, none⟩ = some (.int .i64 x0) := (hb2.cell (p := ⟨w.heap.size, 1, none⟩) (by go_size)).trans (by simp [go_sem])
  have c2_ : w2.cell? ⟨w.heap.size, 2, none⟩ = some (.int .i64 y0) := (hb2.cell (p := ⟨w.heap.size, 2, none⟩) (by go_size)).trans (by simp [go_sem])
  have c3_ : w2.cell? ⟨w.heap.size, 3, none⟩ = some (.int .i64 z0) := (hb2.cell (p := ⟨w.heap.size, 3, none⟩) (by go_size)).trans (by simp [go_sem])
  have c4_ : w2.cell? ⟨w.heap.size, 4, none⟩ = some (.slice p0 ts0.length c0) := (hb2.cell (p := ⟨w.heap.size, 4, none⟩) (by go_size)).trans (by simp [go_sem])
  have c5_ : w2.cell? ⟨w.heap.size, 5, none⟩ = some (.slice q0 n0 d0) := (hb2.cell (p := ⟨w.heap.size, 5, none⟩) (by go_size)).trans (by simp [go_sem])
  have f0_ : w2.frozen? ⟨w.heap.size, 0, none⟩ = false := (hb2.frozen (p := ⟨w.heap.size, 0, none⟩) (by go_size)).trans (by simp [go_sem])
  have f1_ : w2.frozen? ⟨w.heap.size, 1, none⟩ = false := (hb2.frozen (p := ⟨w.heap.size, 1, none⟩) (by go_size)).trans (by simp [go_sem])
  have f2_ : w2.frozen? ⟨w.heap.size, 2, none⟩ = false := (hb2.frozen (p := ⟨w.heap.size, 2, none⟩) (by go_size)).trans (by simp [go_sem])
  have f3_ : w2.frozen? ⟨w.heap.size, 3, none⟩ = false := (hb2.frozen (p := ⟨w.heap.size, 3, none⟩) (by go_size)).trans (by simp [go_sem])
  have f4_ : w2.frozen? ⟨w.heap.size, 4, none⟩ = false := (hb2.frozen (p := ⟨w.heap.size, 4, none⟩) (by go_size)).trans (by simp [go_sem])
  have f5_ : w2.frozen? ⟨w.heap.size, 5, none⟩ = false := (hb2.frozen (p := ⟨w.heap.size, 5, none⟩) (by go_size)).trans (by simp [go_sem])
  have HOK := Lib.hid hok
  clear hok hB1 hb2 HFEW
  cases ok
  · go_wp2_with (go_at_call 8; (with_reducible refine (lives_any _).mono ?_); rintro e w4 ⟨rfl, hb4⟩)
    go_ret
    exact ⟨rfl, (show Below w.heap.size w _ by have h4 := (show Below w.heap.size w _ by (repeat' (first | (with_reducible exact Below.refl _ _) | (with_reducible assumption) | (with_reducible refine below_drewN ?_ _) | (with_reducible refine Below.alloc ?_ ?_ _) | (with_reducible refine Below.drew ?_) | (with_reducible refine Below.setCell ?_ ?_ _) | go_size))).trans (hb4.mono (by go_size)); (repeat' (first | (with_reducible exact Below.refl _ _) | (with_reducible assumption) | (with_reducible refine below_drewN ?_ _) | (with_reducible refine Below.alloc ?_ ?_ _) | (with_reducible refine Below.drew ?_) | (with_reducible refine Below.setCell ?_ ?_ _) | go_size)))⟩
  · have HOKT : Hid (∀ (i : Nat) (h : i < us.length), hgt us[i] ≤ 60) := HOK.out rfl
    clear HOK
    go_upto_region 5 with (fail)
    obtain ⟨w3, hw3⟩ : ∃ w3, ((((((w2.setCell ⟨w.heap.size, 0, none⟩ (.string sv)).setCell ⟨w.heap.size, 1, none⟩ (.int .i64 x0)).setCell ⟨w.heap.size, 2, none⟩ (.int .i64 y0)).setCell ⟨w.heap.size, 3, none⟩ (.int .i64 z0)).setCell ⟨w.heap.size, 4, none⟩ (.slice p0 us.length c0)).setCell ⟨w.heap.size, 5, none⟩ (.slice q0 m d0)) = w3 := ⟨_, rfl⟩
    have hB3 : Below w.heap.size w w3 := by rw [← hw3]; (repeat' (first | (with_reducible exact Below.refl _ _) | (with_reducible assumption) | (with_reducible refine below_drewN ?_ _) | (with_reducible refine Below.alloc ?_ ?_ _) | (with_reducible refine Below.drew ?_) | (with_reducible refine Below.setCell ?_ ?_ _) | go_size))
    have k0 : w3.cell? ⟨w.heap.size, 0, none⟩ = some (.string sv) := by rw [← hw3]; simp [go_sem, c0_, c1_, c2_, c3_, c4_, c5_]
    have k1 : w3.cell? ⟨w.heap.size, 1, none⟩ = some (.int .i64 x0) := by rw [← hw3]; simp [go_sem, c0_, c1_, c2_, c3_, c4_, c5_]
    have k2 : w3.cell? ⟨w.heap.size, 2, none⟩ = some (.int .i64 y0) := by rw [← hw3]; simp [go_sem, c0_, c1_, c2_, c3_, c4_, c5_]
    have k3 : w3.cell? ⟨w.heap.size, 3, none⟩ = some (.int .i64 z0) := by rw [← hw3]; simp [go_sem, c0_, c1_, c2_, c3_, c4_, c5_]
    have k4 : w3.cell? ⟨w.heap.size, 4, none⟩ = some (.slice p0 us.length c0) := by rw [← hw3]; simp [go_sem, c0_, c1_, c2_, c3_, c4_, c5_]
    have k5 : w3.cell? ⟨w.heap.size, 5, none⟩ = some (.slice q0 m d0) := by rw [← hw3]; simp [go_sem, c0_, c1_, c2_, c3_, c4_, c5_]
    rw [hw3]
    have hz3 : w.heap.size < w3.heap.size := cell_lt k0
    have HB3 := Lib.hid hB3
    clear hw3 c0_ c1_ c2_ c3_ c4_ c5_ f0_ f1_ f2_ f3_ f4_ f5_ hbw2 hz2
    obtain ⟨i0, hi, hz0, hz1, hz2⟩ := info_parts infoC
    go_cut [6] (fun v wx => wx.ownsRow w3.heap.size 37 3 v m (rowsL m 3 (fun i => insCell (C0 i))) ∧ Below w3.heap.size w3 wx)
    case first =>
      have hnil := World.ownsRow_nil w3 w3.heap.size 37 3
      have HNIL := Lib.hid hnil
      clear hnil
      have harr : m = 0 ∧ q0 = none ∨ ∃ ad : Addr, q0 = some ad ∧ ∀ (j : Nat) (u : Value), (rowsL m 3 (fun i => insCell (C0 i)))[j]? = some u → w3.cell? (ad.add j) = some u := by
        by_cases h0 : 0 < m
        · obtain ⟨b, off, e, hlt, hc⟩ := HCD.out h0
          exact .inr ⟨⟨b, off, none⟩, e, rowsL_read (by decide) (fun i hi' j hj => (HB3.out.cell (p := ⟨b, off + i * 3 + j, none⟩) hlt).trans (hc i hi' j hj))⟩
        · have h0' : m = 0 := by omega
          cases q0 with
          | none => exact .inl ⟨h0', rfl⟩
          | some ad => exact .inr ⟨ad, rfl, fun j u hu => by rw [h0'] at hu; simp [rowsL] at hu⟩
      rcases harr with ⟨h0, rfl⟩ | ⟨ad, rfl, hread⟩
      · have HH0 := Lib.hid h0
        rw [h0] at k5
        clear h0
        go_wp2_with fail
        go_meet
        exact ⟨by rw [HH0.out]; exact HNIL.out, Below.refl _ _⟩
      · have hone := rowsL_one (n := m) (size := 3) (F := fun i => insCell (C0 i)) (fun i hi' j hj => ins_one (C0 i) j)
        have HREAD := Lib.hid hread
        have HONE := Lib.hid hone
        clear hread hone
        go_wp2_with (at_builtin; refine wpList_append_own _ rfl _ _ 23 rfl w3.heap.size 37 i0 (.agg #[.int .i64 0, .int .i64 0, .int .i64 0]) 3 24 Try.underlying23 hi hz0 hz1 hz2 rfl (by decide) _ _ _ rfl HNIL.out ad m d0 (rowsL m 3 (fun i => insCell (C0 i))) rfl (rowsL_len _ _ _) HREAD.out HONE.out (by unfold maxLen; omega) (by omega) (by omega) ?_; intro v2 w7 hown7 hg7 _)
        go_meet
        exact ⟨by simpa using hown7, below_of_append HNIL.out hg7 (by omega)⟩
    case rest =>
      obtain ⟨howq, hbq⟩ := hcut
      rename World => w4
      obtain ⟨Aq, cq, rfl⟩ := own_slice howq
      have HOWN4 := Lib.hid howq
      have hB4 := hB3.trans (hbq.mono hB3.size)
      have m0 := below_cell hbq k0
      have m1 := below_cell hbq k1
      have m2 := below_cell hbq k2
      have m3 := below_cell hbq k3
      have m4 := below_cell hbq k4
      have m5 := below_cell hbq k5
      clear k0 k1 k2 k3 k4 k5
      have hz4 : w.heap.size < w4.heap.size := cell_lt m0
      clear howq hbq hB3 hz3
      go_wp2_with fail
      (with_reducible refine (depths9_any (fields := a1) m c0 d0 p0 q0 sv x0 y0 z0 us HLI.out hB4 hl1 hcap1 hmd hcap2 hsz (fun i h => Nat.le_trans (HOKT.out i h) (by omega)) HCD.out).mono ?_)
      rintro e w5 ⟨hb5, hG⟩
      have hB5 := hB4.trans (hb5.mono hB4.size)
      have hown5 := ownsRow_below HOWN4.out hb5
      have HOWN5 := Lib.hid hown5
      have HB45 := Lib.hid hb5
      have k0 := below_cell hb5 m0
      have k1 := below_cell hb5 m1
      have k2 := below_cell hb5 m2
      have k3 := below_cell hb5 m3
      have k4 := below_cell hb5 m4
      have k5 := below_cell hb5 m5
      clear hb5 hown5
      rcases hG with ⟨hg, v, G1, rfl, ⟨pa, ca, rfl, ha1, ha2, hra, hfr⟩, hs1, hc1⟩ | ⟨hg, rfl⟩
      · have HG := Lib.hid hg
        clear hs1 hc1 hg k0 k1 k2 k3 k4 k5
        have hstart : SevenR pa m w4 w5 := seven_start HB45.out hra (fun b off e => hfr b off e)
        have HST := Lib.hid hstart
        clear hstart hra hfr
        go_wp2_with fail
        go_loopw [9] (fun i wr => ∃ k : Nat, k ≤ m ∧ i = .int .i64 k ∧ SevenR pa m w4 wr) (fun i _ => m - (intOf i).toNat)
        case atStart => exact ⟨0, Nat.zero_le _, rfl, HST.out⟩
        case round =>
          clear HST
          obtain ⟨k, hk, rfl, hS⟩ := hrel
          have HS := Lib.hid hS
          have hbw := hS.bel
          by_cases hlt : k < m
          · have d1 : decide (k < m) = true := decide_eq_true hlt
            have e0 : (0 : Int) ≤ (k : Int) := by omega
            have e1 : (k : Int) < (m : Int) := by omega
            obtain ⟨b, off, rfl, hb4, hcl, hfz⟩ := hS.row (by omega)
            obtain ⟨x, hx⟩ := hcl k hlt
            have hfk := hfz (off + k)
            clear hcl hfz hS
            go_wp2_with fail
            go_roundw
            case rel => exact ⟨k + 1, by omega, by go_num, HS.out.put (by omega) _ _⟩
            case measure => simp [intOf]; omega
          · have hkm : m = k := by omega
            have d1 : decide (k < m) = false := decide_eq_false hlt
            clear hlt
            subst hkm
            have hBq : Below w.heap.size w wr := hB4.trans (hbw.mono hB4.size)
            have HOWNQ := Lib.hid (ownsRow_below HOWN4.out hbw)
            have n0 := below_cell hbw m0
            have n1 := below_cell hbw m1
            have n2 := below_cell hbw m2
            have n3 := below_cell hbw m3
            have n4 := below_cell hbw m4
            have n5 := below_cell hbw m5
            clear m0 m1 m2 m3 m4 m5 hS hbw HS HB45
            go_wp2_with fail
            (with_reducible refine (depths9_any (fields := a1) m c0 d0 p0 q0 sv x0 y0 z0 us HLI.out hBq hl1 hcap1 hmd hcap2 hsz (fun i h => Nat.le_trans (HOKT.out i h) (by omega)) HCD.out).mono ?_)
            rintro e w6 ⟨hb6, hG2⟩
            have hB6 := hBq.trans (hb6.mono hBq.size)
            have hown6 := ownsRow_below HOWNQ.out hb6
            have u0 := below_cell hb6 n0
            have u1 := below_cell hb6 n1
            have u2 := below_cell hb6 n2
            have u3 := below_cell hb6 n3
            have u4 := below_cell hb6 n4
            have u5 := below_cell hb6 n5
            clear n0 n1 n2 n3 n4 n5
            rcases hG2 with ⟨hg2, v2, G2, rfl, ⟨pb, cb, rfl, hb1, hb2, hrb, _⟩, hs2, hc2⟩ | ⟨hg2, _⟩
            rotate_left
            · exact absurd HG.out hg2
            go_wp2_with fail
            (with_reducible refine (rdepths_any (fields := a1) m c0 d0 p0 q0 sv x0 y0 z0 us HLI.out hB6 hl1 hcap1 hmd hcap2 hsz HCD.out).mono ?_)
            rintro e w7 ⟨hb7, hG3⟩
            have hB7 := hB6.trans (hb7.mono hB6.size)
            have hown7 := ownsRow_below hown6 hb7
            clear hown6
            have y0 := below_cell hb7 u0
            have y1 := below_cell hb7 u1
            have y2 := below_cell hb7 u2
            have y3 := below_cell hb7 u3
            have y4 := below_cell hb7 u4
            have y5 := below_cell hb7 u5
            clear u0 u1 u2 u3 u4 u5
            rcases hG3 with ⟨hg3, v3, G3, rfl, ⟨pd, cd, rfl, hd1, hd2, hrd, _⟩, hs3, hc3⟩ | ⟨hg3, _⟩
            rotate_left
            · exact absurd HG.out hg3
            have hAM : AllMay m C0 := fun j hj => (HG.out.1.2.2.2.2 j hj).1
            have HRA := Lib.hid (hrb.below hb7)
            have HRB : Hid (Row w7 pd m 1 (fun i _ => .int .i64 (G2 i))) := row_change hrd (fun i hi j hj => by rw [sameD hAM hs3 hc3 hs2 hc2 hi])
            clear hs2 hc2 hs3 hc3 hAM hrb hrd
            have HOWN7 := Lib.hid hown7
            clear hown7 hb6 hb7
            go_wp2_with fail
            (with_reducible refine (same_any (n := m) HRA.out HRB.out (by omega) (Below.refl _ _)).mono ?_)
            rintro e w8 ⟨rfl, hb8⟩
            have hB8 := hB7.trans (hb8.mono hB7.size)
            obtain ⟨Ao, co', eo, _, _, hro⟩ := own_rows (ownsRow_below HOWN7.out hb8)
            obtain ⟨rfl, rfl⟩ : Ao = Aq ∧ co' = cq := by cases eo; exact ⟨rfl, rfl⟩
            have HRO : Hid (IsCode w8 Ao m C0) := hro
            have HRC : Hid (IsCode w8 q0 m C0) := Row.below HCD.out hB8
            have g0 := below_cell hb8 y0
            have g1 := below_cell hb8 y1
            have g2 := below_cell hb8 y2
            have g3 := below_cell hb8 y3
            have g4 := below_cell hb8 y4
            have g5 := below_cell hb8 y5
            clear y0 y1 y2 y3 y4 y5
            clear hro eo hb8
            go_wp2_with fail
            (with_reducible refine (code_same HRO.out HRC.out (by omega) (Below.refl _ _)).mono ?_)
            rintro e w9 ⟨rfl, hb9⟩
            have hB9 := hB8.trans (hb9.mono hB8.size)
            go_wp2_with fail
            (with_reducible refine (lives_any _).mono ?_)
            rintro e w10 ⟨rfl, hb10⟩
            have hB10 := hB9.trans (hb10.mono hB9.size)
            go_wp2_with fail
            go_ret
            exact ⟨rfl, by (repeat' (first | (with_reducible exact Below.refl _ _) | (with_reducible assumption) | (with_reducible refine below_drewN ?_ _) | (with_reducible refine Below.alloc ?_ ?_ _) | (with_reducible refine Below.drew ?_) | (with_reducible refine Below.setCell ?_ ?_ _) | go_size))⟩
      · have HG := Lib.hid hg
        clear hg
        have hBq := hB5
        have HOWNQ := HOWN5
        go_wp2_with fail
        go_loopw [9] (fun i wr => i = .int .i64 0 ∧ wr = w5) (fun i _ => 0)
        case atStart => exact ⟨rfl, rfl⟩
        case round =>
          obtain ⟨rfl, rfl⟩ := hrel
          have n0 := k0
          have n1 := k1
          have n2 := k2
          have n3 := k3
          have n4 := k4
          have n5 := k5
          clear k0 k1 k2 k3 k4 k5 m0 m1 m2 m3 m4 m5 HB45
          go_wp2_with fail
          (with_reducible refine (depths9_any (fields := a1) m c0 d0 p0 q0 sv x0 y0 z0 us HLI.out hBq hl1 hcap1 hmd hcap2 hsz (fun i h => Nat.le_trans (HOKT.out i h) (by omega)) HCD.out).mono ?_)
          rintro e w6 ⟨hb6, hG2⟩
          have hB6 := hBq.trans (hb6.mono hBq.size)
          have hown6 := ownsRow_below HOWNQ.out hb6
          have u0 := below_cell hb6 n0
          have u1 := below_cell hb6 n1
          have u2 := below_cell hb6 n2
          have u3 := below_cell hb6 n3
          have u4 := below_cell hb6 n4
          have u5 := below_cell hb6 n5
          clear n0 n1 n2 n3 n4 n5
          rcases hG2 with ⟨hg2, _⟩ | ⟨hg2, rfl⟩
          · exact absurd hg2 HG.out
          go_wp2_with fail
          (with_reducible refine (rdepths_any (fields := a1) m c0 d0 p0 q0 sv x0 y0 z0 us HLI.out hB6 hl1 hcap1 hmd hcap2 hsz HCD.out).mono ?_)
          rintro e w7 ⟨hb7, hG3⟩
          have hB7 := hB6.trans (hb7.mono hB6.size)
          have hown7 := ownsRow_below hown6 hb7
          clear hown6
          have y0 := below_cell hb7 u0
          have y1 := below_cell hb7 u1
          have y2 := below_cell hb7 u2
          have y3 := below_cell hb7 u3
          have y4 := below_cell hb7 u4
          have y5 := below_cell hb7 u5
          clear u0 u1 u2 u3 u4 u5
          rcases hG3 with ⟨hg3, _⟩ | ⟨hg3, rfl⟩
          · exact absurd hg3 HG.out
          have HOWN7 := Lib.hid hown7
          clear hown7 hb6 hb7
          go_wp2_with fail
          (with_reducible refine (same_any (n := 0) (row_none (w := w7) (fun _ => 0)) (row_none (w := w7) (fun _ => 0)) (by omega) (Below.refl _ _)).mono ?_)
          rintro e w8 ⟨rfl, hb8⟩
          have hB8 := hB7.trans (hb8.mono hB7.size)
          obtain ⟨Ao, co', eo, _, _, hro⟩ := own_rows (ownsRow_below HOWN7.out hb8)
          obtain ⟨rfl, rfl⟩ : Ao = Aq ∧ co' = cq := by cases eo; exact ⟨rfl, rfl⟩
          have HRO : Hid (IsCode w8 Ao m C0) := hro
          have HRC : Hid (IsCode w8 q0 m C0) := Row.below HCD.out hB8
          have g0 := below_cell hb8 y0
          have g1 := below_cell hb8 y1
          have g2 := below_cell hb8 y2
          have g3 := below_cell hb8 y3
          have g4 := below_cell hb8 y4
          have g5 := below_cell hb8 y5
          clear y0 y1 y2 y3 y4 y5
          clear hro eo hb8
          go_wp2_with fail
          (with_reducible refine (code_same HRO.out HRC.out (by omega) (Below.refl _ _)).mono ?_)
          rintro e w9 ⟨rfl, hb9⟩
          have hB9 := hB8.trans (hb9.mono hB8.size)
          go_wp2_with fail
          (with_reducible refine (lives_any _).mono ?_)
          rintro e w10 ⟨rfl, hb10⟩
          have hB10 := hB9.trans (hb10.mono hB9.size)
          go_wp2_with fail
          go_ret
          exact ⟨rfl, by (repeat' (first | (with_reducible exact Below.refl _ _) | (with_reducible assumption) | (with_reducible refine below_drewN ?_ _) | (with_reducible refine Below.alloc ?_ ?_ _) | (with_reducible refine Below.drew ?_) | (with_reducible refine Below.setCell ?_ ?_ _) | go_size))⟩


/-! ### the row's step -/
set_option maxRecDepth 100000 in
theorem lifted (os : Os) (started : os.Started) (H : Type) (enc : TypeId × Value → H) :
    ReturnsInHanded {} Try.checked os 5 .any (Rows.verifyOwnsSpec.pre6 enc Try.prog Try.f5 Rows.verifyOwnsRow.domain false) (Rows.verifyOwnsSpec.post enc Try.prog Try.f5 false true false false) := by
  refine returnsInHanded_of_change (C := Try.checked) own started (by kernel_rfl) Try.func5
    (ChangeSpec.witness6 (enc := enc) (C := Try.checked) false ⟨#[], #[.agg #[.string ⟨#[]⟩, .int .i64 0, .int .i64 0, .int .i64 0, .slice none 0 0, .slice none 0 0], .int .i64 0], []⟩ 8 (by kernel_rfl) (by kernel_rfl) (by kernel_rfl) (by kernel_rfl)) ?_
  intro W base args ds gs before hval0 hW hcnd _
  have hval : ∀ (j : Nat) t v, Try.f5.params[j]? = some t → args[j]? = some v → Value.okWide Try.prog W .any base t v := hval0
  have hW' := hW
  obtain ⟨p, q, hA0, hV, rfl, hfz, hnd⟩ := hW
  have hA : DataW.TrodAll enc Try.prog W 0 (fun _ => true) true Try.f5.params.toList args.toList ds p := hA0
  rw [Try.params5] at hA hval
  obtain ⟨v0, vs0, d0, ds0, p0, q0, hargs, rfl, rfl, h0, r0⟩ := trodAll_cons hA
  obtain ⟨v1, vs1, d1, ds1, p1, q1, rfl, rfl, rfl, h1, r1⟩ := trodAll_cons r0
  obtain ⟨rfl, rfl, rfl⟩ := trodAll_nil r1
  obtain rfl : args = #[v0, v1] := by cases args; simp_all
  obtain ⟨rfl, rfl⟩ := trodVars_none hV
  have k0 := h0
  have lt0 : ∀ x ∈ p0, x.block < W.heap.size := by obtain ⟨m, hm⟩ := k0; exact DataW.trod_lt m _ _ _ hm
  obtain ⟨s0, x0, y0, z0, LA0, us0, lc0, CA0, cn0, cc0, F0, C0, rfl, R0⟩ := open_method (hval 0 25 v0 rfl rfl) h0
  obtain ⟨a1, rfl, rfl, rfl, w1⟩ := open_int Try.underlying3 (hval 1 3 v1 rfl rfl) h1
  clear hA0 hval0
  refine (walk W _ _ _ _ _ _ _ _ _ _ _ _ R0 _).mono fun e W' ⟨he, bel⟩ => ?_
  subst he
  exact ⟨_, rfl, _, _, _, [], _, [], hW', trodAll_mk1 (shut_bool Try.underlying4 _), (trodAll_cons_mk (Below.trod laidOut (by kernel_rfl) (of_decide_eq_true (by kernel_rfl)) k0 bel lt0) (trodAll_cons_mk (shut_int Try.underlying3 w1) trodAll_mk0)), rfl, bel.frame _, fun h => by cases h⟩

theorem over : Rows.verifyOwnsRow.holds Try.pinned (OpenSpec.ofChange Rows.verifyOwnsSpec) :=
  OpenClaim.holds_of_wide 5 Try.f5 rfl rfl rfl rfl rfl rfl rfl ⟨rfl, rfl, rfl, rfl, rfl⟩ rfl rfl rfl rfl rfl (by kernel_rfl) Try.func5 (by kernel_rfl)
    (of_decide_eq_true (by kernel_rfl)) (by unfold Func.isWrapper; first | (rw [if_pos (by decide +kernel)]; kernel_rfl) | (rw [if_neg (by decide +kernel)]; exact ⟨rfl, rfl⟩))
    (fun os started H enc _ => lifted os started H enc)

theorem proved : Rows.VerifyOwnsSaid := over
end Go.Proofs.Ytnjfjebmkajpbaa.verifyOwns

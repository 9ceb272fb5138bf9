/- Chapter 09: bytes read as instructions, by the reference. -/
import Derived.Test.YtclndbiljhbbkaaDoorC9
import Derived.Deep.RegionHeld3
namespace Go.Proofs.YtclndbiljhbbkaaDoor
open Go.ChangeShapes Go.WideShapes Go.ChangeAt Go.RowKit Go.Deep Go.Joins
set_option linter.unusedVariables false
set_option linter.unusedSimpArgs false
set_option maxRecDepth 100000 in
set_option maxHeartbeats 16000000 in
theorem rread_any {w : World} {p : Option Addr} {n c : Nat} {F : Nat → Int} (hC : IsBytes w p n F) (hF : ∀ i, i < n → 0 ≤ F i ∧ F i ≤ 255) (hn : n ≤ 2000) (hc : n ≤ c) (hc2 : c ≤ 9223372036854775807) : Calls Tryd.prog 25 #[.slice p n c] w (ReadP w F n) := by
  have HC := Lib.hid hC
  have HF := Lib.hid hF
  clear hC hF
  by_cases hr : n % 3 = 0
  · have e1 : (n : Int).tmod 3 = 0 := by show ((n % 3 : Nat) : Int) = 0; omega
    have e2 : (n : Int) % 3 = 0 := by omega
    by_cases hb : 1200 < n
    · have d0 : decide (1200 < n) = true := decide_eq_true hb
      have d0' : decide ((1200 : Int) < (n : Int)) = true := decide_eq_true (by omega)
      have HV : Hid (readV F n = (0, 19)) := Lib.hid (by unfold readV; rw [if_neg (fun q => by have := q.2.1; omega)])
      go_enter Tryd.func25, Tryd.ntmps25
      go_wp2_with fail
      go_returns
      try unfold ReadP
      rw [HV.out]
      exact ⟨_, rfl, IRow.nil _ _ _, Below.refl _ _⟩
    · have d0 : decide (1200 < n) = false := decide_eq_false hb
      have d0' : decide ((1200 : Int) < (n : Int)) = false := decide_eq_false (by omega)
      obtain ⟨m, hm⟩ : ∃ m, n = 3 * m := ⟨n / 3, by omega⟩
      go_enter Tryd.func25, Tryd.ntmps25
      go_wp2_with fail
      clear e1 e2
      have HM := Lib.hid hm
      have HR := Lib.hid hr
      clear hr
      go_loopw [4, 5] (fun v i wr => ∃ k : Nat, k ≤ m ∧ i = .int .i64 ((3 * k : Nat) : Int) ∧ IRow wr w.heap.size v k (insB F) ∧ mayTo (insB F) k = true ∧ Below w.heap.size w wr) (fun _ i _ => n - (intOf i).toNat)
      case atStart => exact ⟨0, Nat.zero_le _, rfl, IRow.nil _ _ _, rfl, Below.refl _ _⟩
      case round =>
        obtain ⟨k, hk, rfl, hown, hmay, hbw⟩ := hrel
        have HOWN := Lib.hid hown
        have HMAY := Lib.hid hmay
        have HBW := Lib.hid hbw
        have hbs := hbw.size
        obtain ⟨i, hi⟩ : ∃ i : Nat, 3 * k = i := ⟨_, rfl⟩
        rw [hi]
        by_cases hlt : k < m
        · have d1 : decide (i < n) = true := decide_eq_true (by omega)
          have d1' : decide ((i : Int) < (n : Int)) = true := decide_eq_true (by omega)
          obtain ⟨bb, off, rfl, hlt0, hcell⟩ := HC.out.at_ hbw (show 0 < n by omega)
          have c0 := hcell i (by omega)
          have c1 := hcell (i + 1) (by omega)
          have c2 := hcell (i + 2) (by omega)
          have b0 := HF.out i (by omega)
          have b1 := HF.out (i + 1) (by omega)
          have b2 := HF.out (i + 2) (by omega)
          obtain ⟨x, hx⟩ : ∃ x, F i = x := ⟨_, rfl⟩
          obtain ⟨y, hy⟩ : ∃ x, F (i + 1) = x := ⟨_, rfl⟩
          obtain ⟨z, hz⟩ : ∃ x, F (i + 2) = x := ⟨_, rfl⟩
          have HIN : Hid (insB F k = ⟨x, y, z⟩) := Lib.hid (by unfold insB; rw [hi, hx, hy, hz])
          rw [hx] at b0 c0
          rw [hy] at b1 c1
          rw [hz] at b2 c2
          have wx : IntKind.i64.wrap x = x := IntWalk.i64_in _ ⟨by omega, by omega⟩
          have wy : IntKind.i64.wrap y = y := IntWalk.i64_in _ ⟨by omega, by omega⟩
          have wz : IntKind.i64.wrap z = z := IntWalk.i64_in _ ⟨by omega, by omega⟩
          have g0 : (0 : Int) ≤ (i : Int) := by omega
          have g1 : (i : Int) < (n : Int) := by omega
          have g2 : (i : Int) + 1 < (n : Int) := by omega
          have g3 : (i : Int) + 2 < (n : Int) := by omega
          have g4 : (0 : Int) ≤ (i : Int) + 1 := by omega
          have g5 : (0 : Int) ≤ (i : Int) + 2 := by omega
          have w1 : IntKind.i64.wrap ((i : Int) + 1) = (i : Int) + 1 := IntWalk.i64_in _ ⟨by omega, by omega⟩
          have w2 : IntKind.i64.wrap ((i : Int) + 2) = (i : Int) + 2 := IntWalk.i64_in _ ⟨by omega, by omega⟩
          have t2 : ((i : Int) + 2).toNat = i + 2 := by omega
          have hlt1 : bb < wr.heap.size := Nat.lt_of_lt_of_le hlt0 hbs
          have HI := Lib.hid hi
          clear hcell hx hy hz hi hown hmay hbw hm
          go_wp2_with fail
          go_region_held3 (fun w' => w'.cell? ⟨bb, off + i, none⟩ = some (.int .u8 x) ∧ w'.cell? ⟨bb, off + (i + 1), none⟩ = some (.int .u8 y) ∧ w'.cell? ⟨bb, off + (i + 2), none⟩ = some (.int .u8 z)) (first | assumption | (refine ⟨?_, ?_, ?_⟩ <;> first | assumption | (refine alloc_keep ?_; assumption) | (simp [go_sem, *]; done)) | (simp [go_sem, *]; done)) (first | fail)
          obtain ⟨gx, hgx_⟩ : ∃ g, g = wr.heap.size := ⟨_, rfl⟩
          obtain ⟨W3, hW3⟩ : ∃ W3, W3 = (wr.alloc (.cells #[.int .i64 x, .int .i64 y, .int .i64 z] 31)).drew := ⟨_, rfl⟩
          have hA : Below wr.heap.size wr W3 := by rw [hW3]; exact Below.drew ((Below.refl _ _).alloc (Nat.le_refl _) _)
          have a0 : W3.cell? ⟨gx, 0, none⟩ = some (.int .i64 x) := by rw [hW3, hgx_]; simp [go_sem]
          have a1 : W3.cell? ⟨gx, 1, none⟩ = some (.int .i64 y) := by rw [hW3, hgx_]; simp [go_sem]
          have a2 : W3.cell? ⟨gx, 2, none⟩ = some (.int .i64 z) := by rw [hW3, hgx_]; simp [go_sem]
          have hgx : gx < W3.heap.size := cell_lt a0
          rw [← hW3, ← hgx_]
          have HBA := Lib.hid hA
          clear hW3 hgx_ hA c0 c1 c2
          cases hmb : mayB ⟨x, y, z⟩
          · have HMB := Lib.hid hmb
            have HV : Hid (readV F n = (0, 19)) := Lib.hid (by unfold readV; rw [if_neg (fun q => by have h2 := q.2.2; rw [HM.out, Nat.mul_div_cancel_left m (by decide), mayTo_no hlt (by rw [HIN.out]; exact hmb)] at h2; cases h2)])
            clear hmb
            go_wp2_with (go_at_call 17; (with_reducible refine (rmay_any x y z _).mono ?_); rw [HMB.out]; rintro e w3 ⟨rfl, hb3⟩; have HB3 := Lib.hid (Below.trans' HBA.out hb3); have d0 := (hb3.cell (p := ⟨gx, 0, none⟩) hgx).trans a0; have d1_ := (hb3.cell (p := ⟨gx, 1, none⟩) hgx).trans a1; have d2_ := (hb3.cell (p := ⟨gx, 2, none⟩) hgx).trans a2; clear hb3)
            go_returns
            try unfold ReadP
            rw [HV.out]
            exact ⟨_, rfl, IRow.nil _ _ _, HBW.out.trans (HB3.out.mono hbs)⟩
          · have HMB := Lib.hid hmb
            have HMT : Hid (mayTo (insB F) (k + 1) = true) := Lib.hid (by rw [mayTo_succ, HMAY.out, HIN.out, hmb]; rfl)
            clear hmb HMAY
            go_wp2_with (first | (go_at_call 17; (with_reducible refine (rmay_any x y z _).mono ?_); rw [HMB.out]; rintro e w3 ⟨rfl, hb3⟩; have HB3 := Lib.hid (Below.trans' HBA.out hb3); have d0 := (hb3.cell (p := ⟨gx, 0, none⟩) hgx).trans a0; have d1_ := (hb3.cell (p := ⟨gx, 1, none⟩) hgx).trans a1; have d2_ := (hb3.cell (p := ⟨gx, 2, none⟩) hgx).trans a2; clear hb3) | (at_builtin; refine wpList_ins rfl _ _ rfl w.heap.size _ k (insB F) rfl (HOWN.out.below (HB3.out.trans (((Below.refl w3.heap.size w3).alloc (Nat.le_refl _) _).mono HB3.out.size))) (B := w3.heap.size) (c := 1) (p := x) (q := y) (r := z) rfl (lit3_i64 w3 x y z) (by omega) (Nat.le_trans hbs (Nat.le_trans HB3.out.size (by simp))) HIN.out ?_; intro v5 w5 hi5 hb5; have HI5 := Lib.hid hi5; have HB5 := Lib.hid ((HBW.out.trans (HB3.out.mono hbs)).trans (((Below.refl w.heap.size w3).alloc (Nat.le_trans hbs HB3.out.size) _).trans hb5)); clear hi5 hb5))
            go_roundw
            case rel => exact ⟨k + 1, by omega, by rw [← HI.out]; go_num, HI5.out, HMT.out, HB5.out⟩
            case measure => simp [intOf]; omega
        · have hkm : k = m := by omega
          have d1 : decide (i < n) = false := decide_eq_false (by omega)
          have d1' : decide ((i : Int) < (n : Int)) = false := decide_eq_false (by omega)
          have HV : Hid (readV F n = (k, 0)) := Lib.hid (by unfold readV; rw [if_pos ⟨HR.out, by omega, by rw [HM.out, Nat.mul_div_cancel_left m (by decide), ← hkm]; exact hmay⟩, HM.out, Nat.mul_div_cancel_left m (by decide), hkm])
          clear hkm hown hmay hbw hi hm
          go_wp2_with fail
          go_returns
          try unfold ReadP
          rw [HV.out]
          exact ⟨_, rfl, HOWN.out, HBW.out⟩
  · have e1 : (n : Int).tmod 3 = ((n % 3 : Nat) : Int) := rfl
    have e2 : ¬ (n : Int) % 3 = 0 := by omega
    have e3 : ((n : Int) % 3 != 0) = true := by simpa using e2
    have HV : Hid (readV F n = (0, 19)) := Lib.hid (by unfold readV; rw [if_neg (fun q => hr q.1)])
    go_enter Tryd.func25, Tryd.ntmps25
    go_wp2_with fail
    go_returns
    try unfold ReadP
    rw [HV.out]
    exact ⟨_, rfl, IRow.nil _ _ _, Below.refl _ _⟩
end Go.Proofs.YtclndbiljhbbkaaDoor

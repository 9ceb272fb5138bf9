/- Contracts: the reference's plain, where the head is right. -/
import Derived.Test.YtnjfjebmkajpbaaK5
namespace Go.Proofs.Ytnjfjebmkajpbaa
open Go.ChangeShapes Go.WideShapes Go.ChangeAt Go.RowKit
set_option linter.unusedVariables false
set_option linter.unusedSimpArgs false

set_option maxHeartbeats 16000000 in
set_option maxRecDepth 100000 in
theorem plain_good {w0 w : World} {F : Nat → Nat → Value} (n5 c c5 : Nat) (p q : Option Addr) (sel : ByteArray) (args temps prim fields : Int) (ts : List LitT) (hl : IsLits w0 p ts.length F ts) (hB : Below w0.heap.size w0 w) (hc1 : ts.length ≤ c) (hc2 : c ≤ 9223372036854775807) (hc3 : n5 ≤ c5) (hc4 : c5 ≤ 9223372036854775807) (hs : sel.size ≤ 9223372036854775807) {C : Nat → Ins} (hC : IsCode w0 q n5 C) (x0 : ¬ fields < (0 : Int)) (x1 : ¬ (8 : Int) < fields) (x2 : ¬ (sel.size : Int) < (1 : Int)) (x3 : ¬ (60 : Int) < (sel.size : Int)) (x4 : ¬ args < (0 : Int)) (x5 : ¬ (4 : Int) < args) (x6 : ¬ temps < args) (x7 : ¬ (24 : Int) < temps) (x8 : ¬ prim < (0 : Int)) (x9 : ¬ (255 : Int) < prim) (x10 : ¬ (60 : Int) < (ts.length : Int)) (x11 : ¬ (n5 : Int) < (1 : Int)) (x12 : ¬ (400 : Int) < (n5 : Int)) :
    Calls Try.prog 25 #[.agg #[.string sel, .int .i64 args, .int .i64 temps, .int .i64 prim, .slice p ts.length c, .slice q n5 c5], .int .i64 fields] w (fun e w' => ((e = .returned (.bool true) ∧ PlainOK sel args temps prim fields ts n5 C) ∨ (e = .returned (.bool false) ∧ ¬ PlainOK sel args temps prim fields ts n5 C)) ∧ Below w.heap.size w w') := by
  have HHEAD : Hid (headB sel args temps prim fields = true ∧ ts.length ≤ 60 ∧ inB (n5 : Int) 1 400 = true) := by
    show _ ∧ _
    refine ⟨?_, by omega, ?_⟩
    · unfold headB inB; simp only [Bool.and_eq_true, decide_eq_true_eq]; omega
    · unfold inB; simp only [Bool.and_eq_true, decide_eq_true_eq]; omega
  have hnl : ts.length ≤ 60 := by omega
  have hn5 : n5 ≤ 400 := by omega
  have p0i : ¬ fields < (0 : Int) := by omega
  have d0i : decide (fields < (0 : Int)) = false := decide_eq_false p0i
  have p1i : ¬ (8 : Int) < fields := by omega
  have d1i : decide ((8 : Int) < fields) = false := decide_eq_false p1i
  have p2i : ¬ (sel.size : Int) < (1 : Int) := by omega
  have d2i : decide ((sel.size : Int) < (1 : Int)) = false := decide_eq_false p2i
  have p2n : ¬ sel.size < 1 := by omega
  have d2n : decide (sel.size < 1) = false := decide_eq_false p2n
  have p3i : ¬ (60 : Int) < (sel.size : Int) := by omega
  have d3i : decide ((60 : Int) < (sel.size : Int)) = false := decide_eq_false p3i
  have p3n : ¬ 60 < sel.size := by omega
  have d3n : decide (60 < sel.size) = false := decide_eq_false p3n
  have p4i : ¬ args < (0 : Int) := by omega
  have d4i : decide (args < (0 : Int)) = false := decide_eq_false p4i
  have p5i : ¬ (4 : Int) < args := by omega
  have d5i : decide ((4 : Int) < args) = false := decide_eq_false p5i
  have p6i : ¬ temps < args := by omega
  have d6i : decide (temps < args) = false := decide_eq_false p6i
  have p7i : ¬ (24 : Int) < temps := by omega
  have d7i : decide ((24 : Int) < temps) = false := decide_eq_false p7i
  have p8i : ¬ prim < (0 : Int) := by omega
  have d8i : decide (prim < (0 : Int)) = false := decide_eq_false p8i
  have p9i : ¬ (255 : Int) < prim := by omega
  have d9i : decide ((255 : Int) < prim) = false := decide_eq_false p9i
  have p10i : ¬ (60 : Int) < (ts.length : Int) := by omega
  have d10i : decide ((60 : Int) < (ts.length : Int)) = false := decide_eq_false p10i
  have p10n : ¬ 60 < ts.length := by omega
  have d10n : decide (60 < ts.length) = false := decide_eq_false p10n
  have p11i : ¬ (n5 : Int) < (1 : Int) := by omega
  have d11i : decide ((n5 : Int) < (1 : Int)) = false := decide_eq_false p11i
  have p11n : ¬ n5 < 1 := by omega
  have d11n : decide (n5 < 1) = false := decide_eq_false p11n
  have p12i : ¬ (400 : Int) < (n5 : Int) := by omega
  have d12i : decide ((400 : Int) < (n5 : Int)) = false := decide_eq_false p12i
  have p12n : ¬ 400 < n5 := by omega
  have d12n : decide (400 < n5) = false := decide_eq_false p12n
  clear x0 x1 x2 x3 x4 x5 x6 x7 x8 x9 x10 x11 x12
  have HL := Lib.hid hl
  have hI0 : Inv w0 w (w.alloc (.cells #[.string sel, .int .i64 args, .int .i64 temps, .int .i64 prim, .slice p ts.length c, .slice q n5 c5] 25)) (w.alloc (.cells #[.string sel, .int .i64 args, .int .i64 temps, .int .i64 prim, .slice p ts.length c, .slice q n5 c5] 25)) := Inv.start hB ((Below.refl _ _).alloc (Nat.le_refl _) _)
  have HI0 := Lib.hid hI0
  have HLIT : Hid (∀ (j : Nat) (h : j < ts.length), IsLit w0 ts[j] (F j)) := hl.2.2
  have HROW : Hid (Row w0 p ts.length 4 F) := hl.2.1
  clear hl hI0
  go_enter Try.func25, Try.ntmps25
  go_wp2_with fail
  clear p0i d0i p1i d1i p2i d2i p2n d2n p3i d3i p3n d3n p4i d4i p5i d5i p6i d6i p7i d7i p8i d8i p9i d9i p10i d10i p10n d10n p11i d11i p11n d11n p12i d12i p12n d12n
  go_loopw [5] (fun i wr => ∃ k : Nat, k ≤ ts.length ∧ i = .int .i64 k ∧ (∀ j, (h : j < ts.length) → j < k → okL 20 ts[j] = true) ∧ Inv w0 w (w.alloc (.cells #[.string sel, .int .i64 args, .int .i64 temps, .int .i64 prim, .slice p ts.length c, .slice q n5 c5] 25)) wr) (fun i _ => ts.length - (intOf i).toNat)
  case atStart => exact ⟨0, Nat.zero_le _, rfl, fun j _ hj => absurd hj (by omega), HI0.out⟩
  case round =>
    obtain ⟨k, hk, rfl, hall, hI⟩ := hrel
    have HALL := Lib.hid hall
    clear hall
    have hz : w.heap.size < (w.alloc (.cells #[.string sel, .int .i64 args, .int .i64 temps, .int .i64 prim, .slice p ts.length c, .slice q n5 c5] 25)).heap.size := by go_size
    have y0 : wr.cell? ⟨w.heap.size, 0, none⟩ = some (.string sel) := (hI.cell w.heap.size 0 hz).trans (by simp [go_sem])
    have y1 : wr.cell? ⟨w.heap.size, 1, none⟩ = some (.int .i64 args) := (hI.cell w.heap.size 1 hz).trans (by simp [go_sem])
    have y2 : wr.cell? ⟨w.heap.size, 2, none⟩ = some (.int .i64 temps) := (hI.cell w.heap.size 2 hz).trans (by simp [go_sem])
    have y3 : wr.cell? ⟨w.heap.size, 3, none⟩ = some (.int .i64 prim) := (hI.cell w.heap.size 3 hz).trans (by simp [go_sem])
    have y4 : wr.cell? ⟨w.heap.size, 4, none⟩ = some (.slice p ts.length c) := (hI.cell w.heap.size 4 hz).trans (by simp [go_sem])
    have y5 : wr.cell? ⟨w.heap.size, 5, none⟩ = some (.slice q n5 c5) := (hI.cell w.heap.size 5 hz).trans (by simp [go_sem])
    by_cases hlt : k < ts.length
    · have d1 : decide (k < ts.length) = true := decide_eq_true hlt
      obtain ⟨g, off, rfl, hgl, hc⟩ := HROW.out (by omega)
      obtain ⟨pp, cc, GG, e0', e1, e2, e3, _⟩ := (HLIT.out k hlt).cells
      have b0 := (hI.b0.cell (p := ⟨g, off + k * 4 + 0, none⟩) hgl).trans (hc k hlt 0 (by omega))
      have b1 := (hI.b0.cell (p := ⟨g, off + k * 4 + 1, none⟩) hgl).trans (hc k hlt 1 (by omega))
      have b2 := (hI.b0.cell (p := ⟨g, off + k * 4 + 2, none⟩) hgl).trans (hc k hlt 2 (by omega))
      have b3 := (hI.b0.cell (p := ⟨g, off + k * 4 + 3, none⟩) hgl).trans (hc k hlt 3 (by omega))
      rw [Nat.add_zero, e0'] at b0
      rw [e1] at b1
      rw [e2] at b2
      rw [e3] at b3
      have hcall := rliteral_any (HLIT.out k hlt) wr 20 hI.b0 (by omega) (by omega)
      rw [e0', e1, e2, e3] at hcall
      have HCALL := Lib.hid hcall
      clear hc hcall e0' e1 e2 e3
      have g0 : (0 : Int) ≤ (k : Int) := by omega
      have g1 : (k : Int) < (ts.length : Int) := by omega
      cases hq : okL 20 ts[k]
      · have HQ := Lib.hid hq
        clear hq
        go_wp2_with (go_at_call 41; (with_reducible refine HCALL.out.mono ?_); rw [HQ.out]; rintro e w3 ⟨rfl, hb3⟩)
        go_ret
        refine ⟨.inr ⟨rfl, fun h => ?_⟩, (hI.go hb3).bw⟩
        have := List.all_eq_true.1 h.2.1 ts[k] (List.getElem_mem _)
        rw [HQ.out] at this; cases this
      · have HQ := Lib.hid hq
        clear hq
        go_wp2_with (go_at_call 41; (with_reducible refine HCALL.out.mono ?_); rw [HQ.out]; rintro e w3 ⟨rfl, hb3⟩)
        go_roundw
        case rel => exact ⟨k + 1, by omega, by go_num, fun j hj hjk => (by
            rcases Nat.lt_or_ge j k with h | h
            · exact HALL.out j hj h
            · obtain rfl : j = k := by omega
              exact HQ.out), hI.go hb3⟩
        case measure => simp [intOf]; omega
    · have hkn : k = ts.length := by omega
      have d1 : decide (k < ts.length) = false := decide_eq_false hlt
      clear hlt
      subst hkn
      have HLITS : Hid (ts.all (okL 20) = true) := by
        show _ = _
        rw [List.all_eq_true]
        intro x hx
        obtain ⟨j, hj, rfl⟩ := List.mem_iff_getElem.1 hx
        exact HALL.out j hj hj
      have HI1 := Lib.hid hI
      go_wp2_with fail
      clear y0 y1 y2 y3 y4 y5 HALL hI
      rename World => wq
      go_loopw [7] (fun i wr => ∃ k : Nat, k ≤ n5 ∧ i = .int .i64 k ∧ (∀ j, j < k → mayB (C j) = true ∧ opOK ts temps fields (C j) = true) ∧ Inv w0 w (w.alloc (.cells #[.string sel, .int .i64 args, .int .i64 temps, .int .i64 prim, .slice p ts.length c, .slice q n5 c5] 25)) wr) (fun i _ => n5 - (intOf i).toNat)
      case atStart => exact ⟨0, Nat.zero_le _, rfl, fun j hj => absurd hj (by omega), HI1.out⟩
      case round =>
        obtain ⟨k, hk, rfl, hall, hI⟩ := hrel
        have HALL := Lib.hid hall
        clear hall
        have y0 : wr.cell? ⟨w.heap.size, 0, none⟩ = some (.string sel) := (hI.cell w.heap.size 0 hz).trans (by simp [go_sem])
        have y1 : wr.cell? ⟨w.heap.size, 1, none⟩ = some (.int .i64 args) := (hI.cell w.heap.size 1 hz).trans (by simp [go_sem])
        have y2 : wr.cell? ⟨w.heap.size, 2, none⟩ = some (.int .i64 temps) := (hI.cell w.heap.size 2 hz).trans (by simp [go_sem])
        have y3 : wr.cell? ⟨w.heap.size, 3, none⟩ = some (.int .i64 prim) := (hI.cell w.heap.size 3 hz).trans (by simp [go_sem])
        have y4 : wr.cell? ⟨w.heap.size, 4, none⟩ = some (.slice p ts.length c) := (hI.cell w.heap.size 4 hz).trans (by simp [go_sem])
        have y5 : wr.cell? ⟨w.heap.size, 5, none⟩ = some (.slice q n5 c5) := (hI.cell w.heap.size 5 hz).trans (by simp [go_sem])
        by_cases hlt : k < n5
        · have d1 : decide (k < n5) = true := decide_eq_true hlt
          obtain ⟨bb, off, rfl, hlt0, e0, e1, e2⟩ := hC.at_ hI.b0 hlt
          have g0 : (0 : Int) ≤ (k : Int) := by omega
          have g1 : (k : Int) < (n5 : Int) := by omega
          obtain ⟨i, hi⟩ : ∃ i, C k = i := ⟨_, rfl⟩
          have HI := Lib.hid hi
          rw [hi] at e0 e1 e2
          clear hi
          have hyz : w.heap.size < wr.heap.size := hI.lt_ hz
          have hbl : bb < wr.heap.size := Nat.lt_of_lt_of_le hlt0 hI.b0.size
          have HJ := Lib.hid hI
          clear hI
          go_wp2_with fail
          (with_reducible refine (rmay_any _ _ _ _).mono ?_)
          cases hmay : mayB ⟨i.op, i.a, i.b⟩
          · rintro e w4 ⟨rfl, hb4⟩
            have hno : ¬ PlainOK sel args temps prim fields ts n5 C := fun h => by have := (h.2.2.2.2 k hlt).1; rw [HI.out, show i = ⟨i.op, i.a, i.b⟩ from rfl, hmay] at this; cases this
            go_wp2_with fail
            go_quiet (fail)
            go_wp2_with fail
            go_ret
            exact ⟨.inr ⟨rfl, hno⟩, (show Below w.heap.size w _ by have hbb := (HJ.out.go hb4).bw; (repeat' (first | (with_reducible exact Below.refl _ _) | (with_reducible assumption) | (with_reducible refine below_drewN ?_ _) | (with_reducible refine Below.alloc ?_ ?_ _) | (with_reducible refine Below.drew ?_) | (with_reducible refine Below.setCell ?_ ?_ _) | go_size)))⟩
          · rintro e w4 ⟨rfl, hb4⟩
            have hJ4 := HJ.out.go hb4
            have HJ4 := Lib.hid hJ4
            have HB4 := Lib.hid hJ4.b0
            have zz : w.heap.size < w4.heap.size := hJ4.lt_ hz
            have bz : bb < w4.heap.size := Nat.lt_of_lt_of_le hlt0 hJ4.b0.size
            have z0 := (hb4.cell (p := ⟨w.heap.size, 0, none⟩) hyz).trans y0
            have z1 := (hb4.cell (p := ⟨w.heap.size, 1, none⟩) hyz).trans y1
            have z2 := (hb4.cell (p := ⟨w.heap.size, 2, none⟩) hyz).trans y2
            have z3 := (hb4.cell (p := ⟨w.heap.size, 3, none⟩) hyz).trans y3
            have z4 := (hb4.cell (p := ⟨w.heap.size, 4, none⟩) hyz).trans y4
            have z5 := (hb4.cell (p := ⟨w.heap.size, 5, none⟩) hyz).trans y5
            replace e0 := (hb4.cell (p := ⟨bb, off + k * 3, none⟩) hbl).trans e0
            replace e1 := (hb4.cell (p := ⟨bb, off + k * 3 + 1, none⟩) hbl).trans e1
            replace e2 := (hb4.cell (p := ⟨bb, off + k * 3 + 2, none⟩) hbl).trans e2
            clear y0 y1 y2 y3 y4 y5
            obtain ⟨n1, n2, n3, n4, n5', n6⟩ := may_bounds hmay
            have HMY := Lib.hid hmay
            clear hmay hb4 hJ4
            cases hq : opOK ts temps fields ⟨i.op, i.a, i.b⟩
            · have HQ := Lib.hid hq
              clear hq
              go_wp2_with fail
              go_cut [117] (fun v wx => v = .bool true ∧ Below w4.heap.size w4 wx)
              case first =>
                go_region_held3 (fun w' => w'.cell? ⟨w.heap.size, 0, none⟩ = some (.string sel) ∧ w'.cell? ⟨w.heap.size, 1, none⟩ = some (.int .i64 args) ∧ w'.cell? ⟨w.heap.size, 2, none⟩ = some (.int .i64 temps) ∧ w'.cell? ⟨w.heap.size, 3, none⟩ = some (.int .i64 prim) ∧ w'.cell? ⟨w.heap.size, 4, none⟩ = some (.slice p ts.length c) ∧ w'.cell? ⟨w.heap.size, 5, none⟩ = some (.slice (some ⟨bb, off, none⟩) n5 c5) ∧ w'.cell? ⟨bb, off + k * 3, none⟩ = some (.int .i64 i.op) ∧ w'.cell? ⟨bb, off + k * 3 + 1, none⟩ = some (.int .i64 i.a) ∧ w'.cell? ⟨bb, off + k * 3 + 2, none⟩ = some (.int .i64 i.b)) (first | assumption | (simp [go_sem]; done) | (simp [go_sem, *]; done)) (first | (go_at_call 43; (with_reducible refine (opnd2_in n5 c c5 p (some ⟨bb, off, none⟩) sel args temps prim fields ts i.op i.a i.b HL.out (HB4.out.trans ((show Below w4.heap.size w4 _ by (repeat' (first | (with_reducible exact Below.refl _ _) | (with_reducible assumption) | (with_reducible refine below_drewN ?_ _) | (with_reducible refine Below.alloc ?_ ?_ _) | (with_reducible refine Below.drew ?_) | (with_reducible refine Below.setCell ?_ ?_ _) | go_size))).mono HB4.out.size)) n3 n4 n5' n6 hc1 hc2).mono ?_); rw [HQ.out]; rintro e w6 ⟨rfl, hb6⟩; have hb6' := (show Below w4.heap.size w4 _ by (repeat' (first | (with_reducible exact Below.refl _ _) | (with_reducible assumption) | (with_reducible refine below_drewN ?_ _) | (with_reducible refine Below.alloc ?_ ?_ _) | (with_reducible refine Below.drew ?_) | (with_reducible refine Below.setCell ?_ ?_ _) | go_size))).trans (hb6.mono (by go_size)); have j0 := (hb6'.cell (p := ⟨w.heap.size, 0, none⟩) zz).trans z0; have j1 := (hb6'.cell (p := ⟨w.heap.size, 1, none⟩) zz).trans z1; have j2 := (hb6'.cell (p := ⟨w.heap.size, 2, none⟩) zz).trans z2; have j3 := (hb6'.cell (p := ⟨w.heap.size, 3, none⟩) zz).trans z3; have j4 := (hb6'.cell (p := ⟨w.heap.size, 4, none⟩) zz).trans z4; have j5 := (hb6'.cell (p := ⟨w.heap.size, 5, none⟩) zz).trans z5; have j6 := (hb6'.cell (p := ⟨bb, off + k * 3, none⟩) bz).trans e0; have j7 := (hb6'.cell (p := ⟨bb, off + k * 3 + 1, none⟩) bz).trans e1; have j8 := (hb6'.cell (p := ⟨bb, off + k * 3 + 2, none⟩) bz).trans e2; have HB6 := Lib.hid hb6'))
                go_wp2_with fail
                go_meet
                exact ⟨rfl, (show Below w4.heap.size w4 _ by first | exact HB6.out | (repeat' (first | (with_reducible exact Below.refl _ _) | (with_reducible assumption) | (with_reducible refine below_drewN ?_ _) | (with_reducible refine Below.alloc ?_ ?_ _) | (with_reducible refine Below.drew ?_) | (with_reducible refine Below.setCell ?_ ?_ _) | go_size)))⟩
              case rest =>
                obtain ⟨rfl, hbx⟩ := hcut
                go_wp2_with fail
                go_ret
                exact ⟨.inr ⟨rfl, fun h => by have := (h.2.2.2.2 k hlt).2; rw [HI.out, show i = ⟨i.op, i.a, i.b⟩ from rfl, HQ.out] at this; cases this⟩, (HJ4.out.go hbx).bw⟩
            · have HQ := Lib.hid hq
              clear hq
              go_wp2_with fail
              go_cut [117] (fun v wx => v = .bool false ∧ Below w4.heap.size w4 wx)
              case first =>
                go_region_held3 (fun w' => w'.cell? ⟨w.heap.size, 0, none⟩ = some (.string sel) ∧ w'.cell? ⟨w.heap.size, 1, none⟩ = some (.int .i64 args) ∧ w'.cell? ⟨w.heap.size, 2, none⟩ = some (.int .i64 temps) ∧ w'.cell? ⟨w.heap.size, 3, none⟩ = some (.int .i64 prim) ∧ w'.cell? ⟨w.heap.size, 4, none⟩ = some (.slice p ts.length c) ∧ w'.cell? ⟨w.heap.size, 5, none⟩ = some (.slice (some ⟨bb, off, none⟩) n5 c5) ∧ w'.cell? ⟨bb, off + k * 3, none⟩ = some (.int .i64 i.op) ∧ w'.cell? ⟨bb, off + k * 3 + 1, none⟩ = some (.int .i64 i.a) ∧ w'.cell? ⟨bb, off + k * 3 + 2, none⟩ = some (.int .i64 i.b)) (first | assumption | (simp [go_sem]; done) | (simp [go_sem, *]; done)) (first | (go_at_call 43; (with_reducible refine (opnd2_in n5 c c5 p (some ⟨bb, off, none⟩) sel args temps prim fields ts i.op i.a i.b HL.out (HB4.out.trans ((show Below w4.heap.size w4 _ by (repeat' (first | (with_reducible exact Below.refl _ _) | (with_reducible assumption) | (with_reducible refine below_drewN ?_ _) | (with_reducible refine Below.alloc ?_ ?_ _) | (with_reducible refine Below.drew ?_) | (with_reducible refine Below.setCell ?_ ?_ _) | go_size))).mono HB4.out.size)) n3 n4 n5' n6 hc1 hc2).mono ?_); rw [HQ.out]; rintro e w6 ⟨rfl, hb6⟩; have hb6' := (show Below w4.heap.size w4 _ by (repeat' (first | (with_reducible exact Below.refl _ _) | (with_reducible assumption) | (with_reducible refine below_drewN ?_ _) | (with_reducible refine Below.alloc ?_ ?_ _) | (with_reducible refine Below.drew ?_) | (with_reducible refine Below.setCell ?_ ?_ _) | go_size))).trans (hb6.mono (by go_size)); have j0 := (hb6'.cell (p := ⟨w.heap.size, 0, none⟩) zz).trans z0; have j1 := (hb6'.cell (p := ⟨w.heap.size, 1, none⟩) zz).trans z1; have j2 := (hb6'.cell (p := ⟨w.heap.size, 2, none⟩) zz).trans z2; have j3 := (hb6'.cell (p := ⟨w.heap.size, 3, none⟩) zz).trans z3; have j4 := (hb6'.cell (p := ⟨w.heap.size, 4, none⟩) zz).trans z4; have j5 := (hb6'.cell (p := ⟨w.heap.size, 5, none⟩) zz).trans z5; have j6 := (hb6'.cell (p := ⟨bb, off + k * 3, none⟩) bz).trans e0; have j7 := (hb6'.cell (p := ⟨bb, off + k * 3 + 1, none⟩) bz).trans e1; have j8 := (hb6'.cell (p := ⟨bb, off + k * 3 + 2, none⟩) bz).trans e2; have HB6 := Lib.hid hb6'))
                go_wp2_with fail
                go_meet
                exact ⟨rfl, (show Below w4.heap.size w4 _ by first | exact HB6.out | (repeat' (first | (with_reducible exact Below.refl _ _) | (with_reducible assumption) | (with_reducible refine below_drewN ?_ _) | (with_reducible refine Below.alloc ?_ ?_ _) | (with_reducible refine Below.drew ?_) | (with_reducible refine Below.setCell ?_ ?_ _) | go_size)))⟩
              case rest =>
                obtain ⟨rfl, hbx⟩ := hcut
                go_wp2_with fail
                go_roundw
                case rel => exact ⟨k + 1, by omega, by go_num, fun j hj => (by
                    rcases Nat.lt_or_ge j k with h | h
                    · exact HALL.out j h
                    · obtain rfl : j = k := by omega
                      rw [HI.out]; exact ⟨HMY.out, HQ.out⟩), HJ4.out.go hbx⟩
                case measure => simp [intOf]; omega
        · have hkn : k = n5 := by omega
          have d1 : decide (k < n5) = false := decide_eq_false hlt
          clear hlt
          subst hkn
          go_wp2_with fail
          go_ret
          exact ⟨.inl ⟨rfl, HHEAD.out.1, HLITS.out, HHEAD.out.2.1, HHEAD.out.2.2, HALL.out⟩, hI.bw⟩
end Go.Proofs.Ytnjfjebmkajpbaa

/- Contracts: Depths, where the head is right. -/
import Derived.Test.YtnjfjebmkajpbaaK1
namespace Go.Proofs.Ytnjfjebmkajpbaa
open Go.ChangeShapes Go.WideShapes Go.ChangeAt Go.RowKit
set_option linter.unusedVariables false
set_option linter.unusedSimpArgs false

set_option maxHeartbeats 16000000 in
set_option maxRecDepth 100000 in
theorem depths_go {w0 w : World} {F : Nat → Nat → Value} (n5 c c5 : Nat) (p q : Option Addr) (sel : ByteArray) (args temps prim fields : Int) (ts : List LitT) (hl : IsLits w0 p ts.length F ts) (hB : Below w0.heap.size w0 w) (hc1 : ts.length ≤ c) (hc2 : c ≤ 9223372036854775807) (hc3 : n5 ≤ c5) (hc4 : c5 ≤ 9223372036854775807) (hs : sel.size ≤ 9223372036854775807) (hh : ∀ (i : Nat) (h : i < ts.length), hgt ts[i] ≤ 100000) {C : Nat → Ins} (hC : IsCode w0 q n5 C) (h0 : inB fields 0 8 = true) (h1 : inB (sel.size : Int) 1 60 = true) (h2 : inB args 0 4 = true) (h3 : inB temps args 24 = true) (h4 : inB prim 0 255 = true) (hm : ts.length ≤ 60) (h9 : inB (n5 : Int) 1 400 = true) (ho : (!ts.all (okL 20)) = false) :
    Calls Try.prog 9 #[.agg #[.string sel, .int .i64 args, .int .i64 temps, .int .i64 prim, .slice p ts.length c, .slice q n5 c5], .int .i64 fields] w (DepthsPost (GoodM sel args temps prim fields ts n5 C) n5 C w) := by
  have hn5 : 1 ≤ n5 ∧ n5 ≤ 400 := by
    unfold inB at h9
    simp only [Bool.and_eq_true, decide_eq_true_eq] at h9
    omega
  have hpl : (∀ k, k < n5 → mayB (C k) = true ∧ opOK ts temps fields (C k) = true) → PlainOK sel args temps prim fields ts n5 C := fun h => ⟨by unfold headB; rw [h0, h1, h2, h3, h4]; rfl, by simpa using ho, hm, h9, h⟩
  have HPL := Lib.hid hpl
  have H9 := Lib.hid h9
  clear hpl h9
  have hc := dlits_any (c := c) hl (hB.alloc hB.size (.cells #[.string sel, .int .i64 args, .int .i64 temps, .int .i64 prim, .slice p ts.length c, .slice q n5 c5] 25)) (by omega) hh
  have HC := Lib.hid hc
  clear hc
  have HO := Lib.hid ho
  have HL := Lib.hid hl
  have HBB := Lib.hid hB
  clear ho
  have H0 := Lib.hid h0
  clear h0
  have H1 := Lib.hid h1
  clear h1
  have H2 := Lib.hid h2
  clear h2
  have H3 := Lib.hid h3
  clear h3
  have H4 := Lib.hid h4
  clear h4
  have d1 : decide (60 < ts.length) = false := decide_eq_false (by omega)
  have d2 : decide ((60 : Int) < (ts.length : Int)) = false := decide_eq_false (by omega)
  have d3 : ¬ (60 : Int) < (ts.length : Int) := by omega
  have d4 : ¬ 60 < ts.length := by omega
  clear hm
  go_enter Try.func9, Try.ntmps9
  go_wp2_with (first | (go_at_call 17; (with_reducible refine (inn_any _ _ _ _).mono ?_); (first | rw [H0.out] | rw [H1.out] | rw [H2.out] | rw [H3.out] | rw [H4.out] | rw [H9.out]); rintro e wa ⟨rfl, hwa⟩; replace hwa := hwa.symm; subst hwa) | (go_at_call 18; (with_reducible refine HC.out.mono ?_); rw [HO.out]; rintro e w3 ⟨rfl, hb3⟩; have c0 : w3.cell? ⟨w.heap.size, 0, none⟩ = some (.string sel) := (hb3.cell (p := ⟨w.heap.size, 0, none⟩) (by go_size)).trans (by simp [go_sem]); have c1 : w3.cell? ⟨w.heap.size, 1, none⟩ = some (.int .i64 args) := (hb3.cell (p := ⟨w.heap.size, 1, none⟩) (by go_size)).trans (by simp [go_sem]); have c2 : w3.cell? ⟨w.heap.size, 2, none⟩ = some (.int .i64 temps) := (hb3.cell (p := ⟨w.heap.size, 2, none⟩) (by go_size)).trans (by simp [go_sem]); have c3 : w3.cell? ⟨w.heap.size, 3, none⟩ = some (.int .i64 prim) := (hb3.cell (p := ⟨w.heap.size, 3, none⟩) (by go_size)).trans (by simp [go_sem]); have c4 : w3.cell? ⟨w.heap.size, 4, none⟩ = some (.slice p ts.length c) := (hb3.cell (p := ⟨w.heap.size, 4, none⟩) (by go_size)).trans (by simp [go_sem]); have c5' : w3.cell? ⟨w.heap.size, 5, none⟩ = some (.slice q n5 c5) := (hb3.cell (p := ⟨w.heap.size, 5, none⟩) (by go_size)).trans (by simp [go_sem]); have hz3 : w.heap.size < w3.heap.size := Nat.lt_of_lt_of_le (by go_size) hb3.size))
  have hI : Inv w0 w w3 w3 := Inv.start hB (((Below.refl _ _).alloc (Nat.le_refl _) _).trans (hb3.mono (by go_size)))
  have HC3 : Hid ((w3.cell? ⟨w.heap.size, 0, none⟩ = some (.string sel)) ∧ (w3.cell? ⟨w.heap.size, 1, none⟩ = some (.int .i64 args)) ∧ (w3.cell? ⟨w.heap.size, 2, none⟩ = some (.int .i64 temps)) ∧ (w3.cell? ⟨w.heap.size, 3, none⟩ = some (.int .i64 prim)) ∧ (w3.cell? ⟨w.heap.size, 4, none⟩ = some (.slice p ts.length c)) ∧ w3.cell? ⟨w.heap.size, 5, none⟩ = some (.slice q n5 c5)) := ⟨c0, c1, c2, c3, c4, c5'⟩
  clear c0 c1 c2 c3 c4 c5'
  go_loopw [62] (fun i wr => ∃ k : Nat, k ≤ n5 ∧ i = .int .i64 k ∧ (∀ j, j < k → mayB (C j) = true ∧ opOK ts temps fields (C j) = true) ∧ Inv w0 w w3 wr) (fun i _ => n5 - (intOf i).toNat)
  case atStart => exact ⟨0, Nat.zero_le _, rfl, fun j hj => absurd hj (by omega), hI⟩
  case round =>
    clear hI
    obtain ⟨k, hk, rfl, hall, hI⟩ := hrel
    have HALL := Lib.hid hall
    clear hall
    obtain ⟨x0, x1, x2, x3, x4, x5⟩ := HC3.out
    have y0 := (hI.cell w.heap.size 0 hz3).trans x0
    have y1 := (hI.cell w.heap.size 1 hz3).trans x1
    have y2 := (hI.cell w.heap.size 2 hz3).trans x2
    have y3 := (hI.cell w.heap.size 3 hz3).trans x3
    have y4 := (hI.cell w.heap.size 4 hz3).trans x4
    have y5 := (hI.cell w.heap.size 5 hz3).trans x5
    have yz := hI.lt_ hz3
    clear x0 x1 x2 x3 x4 x5
    by_cases hlt : k < n5
    · have d9 : decide (k < n5) = true := decide_eq_true hlt
      obtain ⟨bb, off, rfl, hlt0, e0, e1, e2⟩ := hC.at_ hI.b0 hlt
      have g0 : (0 : Int) ≤ (k : Int) := by omega
      have g1 : (k : Int) < (n5 : Int) := by omega
      obtain ⟨i, hi⟩ : ∃ i, C k = i := ⟨_, rfl⟩
      have HI := Lib.hid hi
      rw [hi] at e0 e1 e2
      clear hi
      have hb0 := hI.b0
      have hbw := hI.bw
      have hbl : bb < wr.heap.size := Nat.lt_of_lt_of_le hlt0 hb0.size
      go_wp2_with fail
      (with_reducible refine (may_any _ _ _ _).mono ?_)
      have hNB : ¬ GoodM sel args temps prim fields ts n5 C ∨ mayB (C k) = true := by
        cases hmay : mayB (C k)
        · exact .inl (fun h => by have := (h.1.2.2.2.2 k hlt).1; rw [hmay] at this; cases this)
        · exact .inr rfl
      cases hmay : mayB ⟨i.op, i.a, i.b⟩
      · rintro e w4 ⟨rfl, hb4⟩
        have hbb : Below w.heap.size w w4 := (hbw.alloc hbw.size _).trans (hb4.mono (by simp only [World.size_alloc]; have := hbw.size; omega))
        have hno : ¬ GoodM sel args temps prim fields ts n5 C := fun h => by have := (h.1.2.2.2.2 k hlt).1; rw [HI.out, show i = ⟨i.op, i.a, i.b⟩ from rfl, hmay] at this; cases this
        go_wp2_with fail
        go_ret2
        exact ⟨hbb, .inr ⟨hno, rfl⟩⟩
      · rintro e w4 ⟨rfl, hb4⟩
        have hb04 : Below w0.heap.size w0 w4 := (hb0.alloc hb0.size _).trans (hb4.mono (by simp only [World.size_alloc]; have := hb0.size; omega))
        have hI4 : Inv w0 w w3 w4 := hI.step ((Below.refl _ _).alloc (Nat.le_refl _) _) hb4
        have z0 := (hI4.cell w.heap.size 0 hz3).trans HC3.out.1
        have z1 := (hI4.cell w.heap.size 1 hz3).trans HC3.out.2.1
        have z2 := (hI4.cell w.heap.size 2 hz3).trans HC3.out.2.2.1
        have z3 := (hI4.cell w.heap.size 3 hz3).trans HC3.out.2.2.2.1
        have z4 := (hI4.cell w.heap.size 4 hz3).trans HC3.out.2.2.2.2.1
        have z5 := (hI4.cell w.heap.size 5 hz3).trans HC3.out.2.2.2.2.2
        have t0 : w4.cell? ⟨wr.heap.size, 0, none⟩ = some (.int .i64 i.op) := (hb4.cell (p := ⟨wr.heap.size, 0, none⟩) (by go_size)).trans (by simp [go_sem])
        have t1 : w4.cell? ⟨wr.heap.size, 1, none⟩ = some (.int .i64 i.a) := (hb4.cell (p := ⟨wr.heap.size, 1, none⟩) (by go_size)).trans (by simp [go_sem])
        have t2 : w4.cell? ⟨wr.heap.size, 2, none⟩ = some (.int .i64 i.b) := (hb4.cell (p := ⟨wr.heap.size, 2, none⟩) (by go_size)).trans (by simp [go_sem])
        obtain ⟨m1, m2, m3, m4, m5, m6⟩ := may_bounds hmay
        have hop := opnd1_in n5 c c5 p (some ⟨bb, off, none⟩) sel args temps prim fields ts i.op i.a i.b HL.out hb04 m3 m4 m5 m6 hc1 hc2
        have HOP := Lib.hid hop
        have HMY := Lib.hid hmay
        clear hop hmay m1 m2 m3 m4 m5 m6
        cases hq : opOK ts temps fields ⟨i.op, i.a, i.b⟩
        · have HQ := Lib.hid hq
          clear hq
          go_wp2_with (go_at_call 22; (with_reducible refine HOP.out.mono ?_); rw [HQ.out]; rintro e w5 ⟨rfl, hb5⟩)
          go_ret2
          exact ⟨(hI4.go hb5).bw, .inr ⟨fun h => (by have := (h.1.2.2.2.2 k hlt).2; rw [HI.out, show i = ⟨i.op, i.a, i.b⟩ from rfl, HQ.out] at this; cases this), rfl⟩⟩
        · have HQ := Lib.hid hq
          clear hq
          go_wp2_with (go_at_call 22; (with_reducible refine HOP.out.mono ?_); rw [HQ.out]; rintro e w5 ⟨rfl, hb5⟩)
          go_roundw
          case rel => exact ⟨k + 1, by omega, by go_num, fun j hj => (by
              rcases Nat.lt_or_ge j k with h | h
              · exact HALL.out j h
              · obtain rfl : j = k := by omega
                rw [HI.out]; exact ⟨HMY.out, HQ.out⟩), hI4.go hb5⟩
          case measure => simp [intOf]; omega
    · have hkn : k = n5 := by omega
      have d9 : decide (k < n5) = false := decide_eq_false hlt
      clear hlt
      subst hkn
      have hP := HPL.out HALL.out
      have hSm := plain_small hP
      have hAM : AllMay k C := fun j hj => (HALL.out j hj).1
      have HP := Lib.hid hP
      clear hP
      have hown := owners_any (c := c5) hC hI.b0 hSm (by omega)
      have HOW := Lib.hid hown
      clear hown
      go_wp2_with fail
      (with_reducible refine HOW.out.mono ?_)
      rintro e w4 ⟨v4, rfl, ⟨po, co, rfl, ho1, ho2, hrow, hbase⟩, hb4⟩
      have hI4 : Inv w0 w w3 w4 := hI.go hb4
      have z5 := (hI4.cell w.heap.size 5 hz3).trans HC3.out.2.2.2.2.2
      have z4 := (hI4.cell w.heap.size 4 hz3).trans HC3.out.2.2.2.2.1
      have hC4 : IsCode w4 q k C := fun hn => by
        obtain ⟨b, off, e, hlt, hc⟩ := hC hn
        exact ⟨b, off, e, Nat.lt_of_lt_of_le hlt hI4.b0.size, fun i hi j hj => (hI4.b0.cell (p := ⟨b, off + i * 3 + j, none⟩) hlt).trans (hc i hi j hj)⟩
      have hsh := shape_any (c := c5) (co := co) hC4 hrow (Below.refl _ _) hSm (by omega)
      have HSH := Lib.hid hsh
      have HROW := Lib.hid hrow
      clear hsh hrow
      cases hs : shapeB k C
      · have HS := Lib.hid hs
        clear hs
        go_wp2_with (go_at_call 23; (with_reducible refine HSH.out.mono ?_); rw [HS.out]; rintro e w5 ⟨rfl, hb5⟩)
        go_ret2
        exact ⟨(hI4.go hb5).bw, .inr ⟨fun h => (by have := h.2.1; rw [HS.out] at this; cases this), rfl⟩⟩
      · have HS := Lib.hid hs
        clear hs
        go_wp2_with fail
        (with_reducible refine HSH.out.mono ?_)
        rw [HS.out]
        rintro e w5 ⟨rfl, hb5⟩
        have hI5 : Inv w0 w w3 w5 := hI4.go hb5
        have u5 := (hI5.cell w.heap.size 5 hz3).trans HC3.out.2.2.2.2.2
        have hdep := depths_any (c := c5) (co := co) (w := w5) hC4 HROW.out hb5 hAM (shape_ends HS.out) (by omega)
        have HDEP := Lib.hid hdep
        clear hdep
        go_wp2_with fail
        (with_reducible refine HDEP.out.mono ?_)
        rintro e w6 ⟨hb6, ⟨v6, F6, rfl, hr6, hs6, hc6⟩ | ⟨hbad, A6, k6, c6, rfl⟩⟩
        · go_wp2_with fail
          go_ret2
          refine ⟨(hI5.go hb6).bw, .inl ⟨⟨HP.out, HS.out, goodD hAM hs6 hc6⟩, v6, F6, rfl, ?_, hs6, hc6⟩⟩
          · obtain ⟨p', c', h1, h2, h3, h4, h5⟩ := hr6
            exact ⟨p', c', h1, h2, h3, h4, fun b off e => ⟨Nat.le_trans hI5.bw.size (h5 b off e).1, (h5 b off e).2⟩⟩
        · go_wp2_with fail
          go_ret2
          exact ⟨(hI5.go hb6).bw, .inr ⟨fun h => h.2.2 hbad, rfl⟩⟩
end Go.Proofs.Ytnjfjebmkajpbaa

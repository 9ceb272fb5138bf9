/- Chapter 05: an object is read. -/
import Derived.Test.YtfinpgkehjbcpaaIN
namespace Go.Proofs.Ytfinpgkehjbcpaa
open Go.ChangeShapes Go.WideShapes Go.ChangeAt Go.RowKit Go.Deep Go.Joins Go.Maps
set_option linter.unusedVariables false
set_option linter.unusedSimpArgs false
set_option maxRecDepth 100000 in
set_option maxHeartbeats 16000000 in
theorem robject_0 {w : World} {rb bb : Nat} {σ : RdS} (h : RS w rb bb σ) (hbb : bb < w.heap.size) (hz : (cntR 2 σ).1 = 0) : Calls Try.prog 48 #[.pointer (some ⟨rb, 0, none⟩)] w fun e w' => ∃ v, e = .returned (.agg #[.int .i64 ((objR σ).1.fmt : Int), .int .i64 (objR σ).1.hash, .int .i64 ((objR σ).1.cls : Int), v]) ∧ Ints w' w.heap.size v (objR σ).1.F ∧ RS w' rb bb (objR σ).2 ∧ Turns (rset rb) w w' := by
  obtain ⟨f, s1, hc1⟩ : ∃ f s1, cntR 2 σ = (f, s1) := ⟨_, _, rfl⟩
  obtain ⟨n, s2, hc2⟩ : ∃ n s2, cntR 256 s1 = (n, s2) := ⟨_, _, rfl⟩
  obtain ⟨hh, s3, hc3⟩ : ∃ n s3, numR s2 = (n, s3) := ⟨_, _, rfl⟩
  obtain ⟨c, s4, hc4⟩ : ∃ n s4, wrdR s3 = (n, s4) := ⟨_, _, rfl⟩
  obtain ⟨s5, hs5⟩ : ∃ s5, mustR (okH hh) s4 = s5 := ⟨_, rfl⟩
  obtain ⟨s6, hs6⟩ : ∃ s6, mustR (okC c) s5 = s6 := ⟨_, rfl⟩
  obtain ⟨F, s7, hc7⟩ : ∃ F s7, fldsR f n s6 = (F, s7) := ⟨_, _, rfl⟩
  have HV : Hid (objR σ = (⟨f, hh, c, F⟩, s7)) := Lib.hid (by unfold objR; simp only [hc1, hc2, hc3, hc4, hs5, hs6, hc7])
  rw [HV.out]
  have HFZ : Hid (f = 0) := Lib.hid (by rw [hc1] at hz; exact hz)
  clear hz
  have hf2 : f ≤ 2 := by have := cntR_le 2 σ; rw [hc1] at this; exact this
  have hn2 : n ≤ 256 := by have := cntR_le 256 s1; rw [hc2] at this; exact this
  have hcb : c ≤ 4611686018427387904 := by have := cntR_le 4611686018427387904 s3; unfold wrdR at hc4; cases hc4; exact this
  have HC1 := Lib.hid hc1
  have HC2 := Lib.hid hc2
  have HC3 := Lib.hid hc3
  have HC4 := Lib.hid hc4
  have HC5 := Lib.hid hs5
  have HC6 := Lib.hid hs6
  have HC7 := Lib.hid hc7
  obtain ⟨W0, hW0⟩ : ∃ W0, W0 = w.alloc (.cells #[.int .i64 0, .int .i64 0, .int .i64 0, .slice none 0 0] 83) := ⟨_, rfl⟩
  have hB0 : Below w.heap.size w W0 := by rw [hW0]; exact (Below.refl _ _).alloc (Nat.le_refl _) _
  have HZ0 : Hid (W0.heap[w.heap.size]? = some (.cells #[.int .i64 0, .int .i64 0, .int .i64 0, .slice none 0 0] 83 (0, 0))) := Lib.hid (by rw [hW0]; exact heap_alloc_new w _)
  have HR : Hid (RS W0 rb bb σ ∧ Turns (rset rb) w W0) := Lib.hid ⟨h.below (hB0), Turns.of_below hB0⟩
  have HRB : Hid (rb < w.heap.size ∧ w.heap.size < W0.heap.size ∧ bb < w.heap.size) := Lib.hid ⟨h.lt, by rw [hW0]; simp, hbb⟩
  clear hc1 hc2 hc3 hc4 hs5 hs6 hc7 HV h hbb
  go_enter Try.func48, Try.ntmps48
  go_upto_region 1 with fail
  rw [← hW0]
  clear hW0 hB0
  go_upto_region 2 with (first | (go_at_call 46; (with_reducible refine (count_lit HR.out.1 2 2 rfl (by omega)).mono ?_); rw [HC1.out]; rintro e w2 ⟨rfl, hr2, ht2⟩; replace HR := Lib.hid (And.intro hr2 (HR.out.2.trans ht2)); have HT0 := Lib.hid ((ht2.block w.heap.size HRB.out.2.1 (by have := HRB.out; unfold rset; omega)).trans HZ0.out); clear hr2 ht2))
  obtain ⟨tb, htb⟩ : ∃ tb, tb = w2.heap.size := ⟨_, rfl⟩
  have HTB : Hid (w.heap.size < tb) := Lib.hid (by rw [htb]; have := HR.out.2.size; rcases Nat.lt_or_ge w.heap.size w2.heap.size with q | q; exact q; have h0 := HT0.out; rw [Array.getElem?_eq_none q] at h0; cases h0)
  have hos : OS w rb bb w.heap.size tb f 0 0 (.slice none 0 0) s1 (w2.alloc (.cells #[.int .i64 (f : Int), .int .i64 0, .int .i64 0, .slice none 0 0] 83)) := by
    have hb : Below w2.heap.size w2 (w2.alloc (.cells #[.int .i64 (f : Int), .int .i64 0, .int .i64 0, .slice none 0 0] 83)) := (Below.refl _ _).alloc (Nat.le_refl _) _
    refine ⟨HR.out.1.below hb, HR.out.2.trans (Turns.of_below hb), (hb.block _ (by rw [← htb]; exact HTB.out)).trans HT0.out, by rw [htb]; exact heap_alloc_new w2 _, ?_⟩
    have := HRB.out
    have := HTB.out
    omega
  obtain ⟨W3, hW3⟩ : ∃ W3, W3 = w2.alloc (.cells #[.int .i64 (f : Int), .int .i64 0, .int .i64 0, .slice none 0 0] 83) := ⟨_, rfl⟩
  rw [← hW3] at hos ⊢
  rw [← htb]
  clear htb hW3 HR HT0 HZ0
  have HS := Lib.hid hos
  have k0 := HS.out.c0
  have k1 := HS.out.c1
  have k2 := HS.out.c2
  have kf1 := HS.out.free 1
  have kf2 := HS.out.free 2
  clear hos
  go_upto_region 5 with (first | (go_at_call 46; (with_reducible refine (count_lit HS.out.rs 256 256 rfl (by omega)).mono ?_); rw [HC2.out]; rintro e w4 ⟨rfl, hr4, ht4⟩; replace HS := Lib.hid (HS.out.read hr4 ht4); have k0 := HS.out.c0; have k1 := HS.out.c1; have k2 := HS.out.c2; have kf1 := HS.out.free 1; have kf2 := HS.out.free 2; clear hr4 ht4) | (go_at_call 82; (with_reducible refine (number_any HS.out.rs).mono ?_); rw [HC3.out]; rintro e w4 ⟨rfl, hr4, ht4⟩; replace HS := Lib.hid (HS.out.read hr4 ht4); have k0 := HS.out.c0; have k1 := HS.out.c1; have k2 := HS.out.c2; have kf1 := HS.out.free 1; have kf2 := HS.out.free 2; clear hr4 ht4) | (go_at_call 49; (with_reducible refine (rword_any' (HS.out.set_ (k := 1) (x := .int .i64 hh) (f' := f) (h' := hh) (c' := 0) (v' := .slice none 0 0) rfl).rs).mono ?_); rw [HC4.out]; rintro e w4 ⟨rfl, hr4, ht4⟩; replace HS := Lib.hid ((HS.out.set_ (k := 1) (x := .int .i64 hh) (f' := f) (h' := hh) (c' := 0) (v' := .slice none 0 0) rfl).read hr4 ht4); have k0 := HS.out.c0; have k1 := HS.out.c1; have k2 := HS.out.c2; have kf1 := HS.out.free 1; have kf2 := HS.out.free 2; clear hr4 ht4))
  have hs5' := HS.out.set_ (k := 2) (x := .int .i64 (c : Int)) (f' := f) (h' := hh) (c' := c) (v' := .slice none 0 0) rfl
  obtain ⟨W5, hW5⟩ : ∃ W5, W5 = w4.setCell ⟨tb, 2, none⟩ (.int .i64 (c : Int)) := ⟨_, rfl⟩
  rw [← hW5] at hs5' ⊢
  clear hW5 HS k0 k1 k2 kf1 kf2
  have HS := Lib.hid hs5'
  have k0 := HS.out.c0
  have k1 := HS.out.c1
  have k2 := HS.out.c2
  have kf1 := HS.out.free 1
  have kf2 := HS.out.free 2
  clear hs5'
  go_cut [] (fun wx => OS w rb bb w.heap.size tb f hh c (.slice none 0 0) (mustR (okH hh) s4) wx)
  case first =>
    by_cases q1 : -1099511627776 ≤ hh
    · have e1 : decide (-1099511627776 ≤ hh) = true := decide_eq_true q1
      by_cases q2 : hh ≤ 1099511627776
      · have e2 : decide (hh ≤ 1099511627776) = true := decide_eq_true q2
        have HO : Hid (mustR true s4 = mustR (okH hh) s4) := Lib.hid (by unfold okH; rw [e1, e2]; rfl)
        go_wp2_with (first | (go_at_call 47; (with_reducible refine (must_any HS.out.rs _).mono ?_); rintro e w4 ⟨rfl, hr4, ht4⟩; replace HS := Lib.hid (HS.out.read hr4 ht4); clear hr4 ht4))
        go_meet
        rw [← HO.out]; exact HS.out
      · have e2 : decide (hh ≤ 1099511627776) = false := decide_eq_false q2
        have HO : Hid (mustR false s4 = mustR (okH hh) s4) := Lib.hid (by unfold okH; rw [e1, e2]; rfl)
        go_wp2_with (first | (go_at_call 47; (with_reducible refine (must_any HS.out.rs _).mono ?_); rintro e w4 ⟨rfl, hr4, ht4⟩; replace HS := Lib.hid (HS.out.read hr4 ht4); clear hr4 ht4))
        go_meet
        rw [← HO.out]; exact HS.out
    · have e1 : decide (-1099511627776 ≤ hh) = false := decide_eq_false q1
      have HO : Hid (mustR false s4 = mustR (okH hh) s4) := Lib.hid (by unfold okH; rw [e1]; rfl)
      go_wp2_with (first | (go_at_call 47; (with_reducible refine (must_any HS.out.rs _).mono ?_); rintro e w4 ⟨rfl, hr4, ht4⟩; replace HS := Lib.hid (HS.out.read hr4 ht4); clear hr4 ht4))
      go_meet
      rw [← HO.out]; exact HS.out
  case rest =>
    replace hcut := hcut
    rw [HC5.out] at hcut
    clear HS k0 k1 k2 kf1 kf2
    have HS := Lib.hid hcut
    have k0 := HS.out.c0
    have k1 := HS.out.c1
    have k2 := HS.out.c2
    have kf1 := HS.out.free 1
    have kf2 := HS.out.free 2
    clear hcut
    have a1 := and_1 (c : Int)
    go_upto_region 6 with fail
    go_cut [] (fun wx => OS w rb bb w.heap.size tb f hh c (.slice none 0 0) (mustR (okC c) s5) wx)
    case first =>
      by_cases q1 : c = 0
      · have e1 : decide ((c : Int) = 0) = true := decide_eq_true (by omega)
        have e1' : ((c : Int) == 0) = true := by simpa using q1
        have HO : Hid (mustR true s5 = mustR (okC c) s5) := Lib.hid (by unfold okC; rw [decide_eq_true q1]; rfl)
        have HQ1 := Lib.hid q1
        clear q1 a1
        go_wp2_with (first | (go_at_call 47; (with_reducible refine (must_any HS.out.rs _).mono ?_); rintro e w4 ⟨rfl, hr4, ht4⟩; replace HS := Lib.hid (HS.out.read hr4 ht4); clear hr4 ht4))
        go_meet
        rw [← HO.out]; exact HS.out
      · have e1 : decide ((c : Int) = 0) = false := decide_eq_false (by omega)
        have e1' : ((c : Int) == 0) = false := by simpa using q1
        by_cases q2 : 4 ≤ c
        · have e2 : decide ((4 : Int) ≤ (c : Int)) = true := decide_eq_true (by omega)
          by_cases q3 : c % 2 = 0
          · have a2 : bits .and .i64 (c : Int) 1 = 0 := by rw [a1]; omega
            have HO : Hid (mustR true s5 = mustR (okC c) s5) := Lib.hid (by unfold okC; rw [decide_eq_false q1, decide_eq_true q2, decide_eq_true q3]; rfl)
            clear q3 a1 q1
            go_wp2_with (first | (go_at_call 47; (with_reducible refine (must_any HS.out.rs _).mono ?_); rintro e w4 ⟨rfl, hr4, ht4⟩; replace HS := Lib.hid (HS.out.read hr4 ht4); clear hr4 ht4))
            go_meet
            rw [← HO.out]; exact HS.out
          · have a2 : bits .and .i64 (c : Int) 1 = 1 := by rw [a1]; omega
            have HO : Hid (mustR false s5 = mustR (okC c) s5) := Lib.hid (by unfold okC; rw [decide_eq_false q1, decide_eq_true q2, decide_eq_false q3]; rfl)
            clear q3 a1 q1
            go_wp2_with (first | (go_at_call 47; (with_reducible refine (must_any HS.out.rs _).mono ?_); rintro e w4 ⟨rfl, hr4, ht4⟩; replace HS := Lib.hid (HS.out.read hr4 ht4); clear hr4 ht4))
            go_meet
            rw [← HO.out]; exact HS.out
        · have e2 : decide ((4 : Int) ≤ (c : Int)) = false := decide_eq_false (by omega)
          have HO : Hid (mustR false s5 = mustR (okC c) s5) := Lib.hid (by unfold okC; rw [decide_eq_false q1, decide_eq_false q2]; rfl)
          clear a1 q1
          go_wp2_with (first | (go_at_call 47; (with_reducible refine (must_any HS.out.rs _).mono ?_); rintro e w4 ⟨rfl, hr4, ht4⟩; replace HS := Lib.hid (HS.out.read hr4 ht4); clear hr4 ht4))
          go_meet
          rw [← HO.out]; exact HS.out
    case rest =>
      rw [HC6.out] at hcut
      clear HS k0 k1 k2 kf1 kf2 a1
      have HS := Lib.hid hcut
      have k0 := HS.out.c0
      have k1 := HS.out.c1
      have k2 := HS.out.c2
      have kf1 := HS.out.free 1
      have kf2 := HS.out.free 2
      clear hcut
      have hf := HFZ.out
      have HF0 : Hid (f = 0) := Lib.hid hf
      have HGE : Hid (∀ σ, fldR f σ = (((wrdR σ).1 : Int), (wrdR σ).2)) := Lib.hid (fun σ => by rw [hf]; rfl)
      have kf0 : (f : Int) = 0 := by omega
      rw [kf0] at k0
      clear hf kf0
      go_wp2_with fail
      go_loopw [6] (fun i wr => ∃ (k : Nat) (ps : List Int) (A3 : Option Addr) (c3 : Nat) (σk : RdS), i = .int .i64 k ∧ k ≤ n ∧ ps.length = k ∧ OS w rb bb w.heap.size tb f hh c (.slice A3 k c3) σk wr ∧ Ints wr (tb + 1) (.slice A3 k c3) ps ∧ fldsR f n s6 = (ps ++ (fldsR f (n - k) σk).1, (fldsR f (n - k) σk).2)) (fun i _ => n - (intOf i).toNat)
      case atStart => exact ⟨0, [], none, 0, s6, rfl, Nat.zero_le _, rfl, HS.out, Ints.nil0 _ _, by simp⟩
      case round =>
        obtain ⟨k, ps, A3, c3, σk, rfl, hk, hps, hos, hin, hfl⟩ := hrel
        replace HS := Lib.hid hos
        have HI := Lib.hid hin
        have HFL := Lib.hid hfl
        have HPS := Lib.hid hps
        have HPB : Hid (rb ≤ tb ∧ bb ≤ tb ∧ w.heap.size ≤ tb) := Lib.hid (by have := HRB.out; have := HTB.out; omega)
        have kr := hos.rs.c1
        have s3 := hos.c3
        have sf3 := hos.free 3
        clear hos hin hfl hps k0 k1 k2 kf1 kf2
        by_cases hlt : k < n
        · have d1 : decide (k < n) = true := decide_eq_true hlt
          have d2 : decide ((k : Int) < (n : Int)) = true := decide_eq_true (by omega)
          cases σk with
          | some lk =>
            obtain ⟨y, σ', hg⟩ : ∃ y σ', wrdR (some lk) = (y, σ') := ⟨_, _, rfl⟩
            have HG := Lib.hid hg
            have HFL2 : Hid (fldsR f n s6 = ((ps ++ [(y : Int)]) ++ (fldsR f (n - (k + 1)) σ').1, (fldsR f (n - (k + 1)) σ').2)) := Lib.hid (by
              rw [HFL.out, show n - k = n - (k + 1) + 1 by omega]
              have e : ∀ m, fldsR f (m + 1) (some lk) = ((fldR f (some lk)).1 :: (fldsR f m (fldR f (some lk)).2).1, (fldsR f m (fldR f (some lk)).2).2) := fun _ => rfl
              rw [e, HGE.out, hg]
              simp)
            have HPL1 : Hid ((ps ++ [(y : Int)]).length = k + 1) := Lib.hid (by have := HPS.out; simp; omega)
            simp only [Option.isNone] at kr
            clear hg HFL
            go_upto_region 16 with fail
            go_region_law (first | (go_simp; go_at_call 49; (with_reducible refine (rword_any' HS.out.drew.rs).mono ?_); rw [HG.out]; rintro e w4 ⟨rfl, hr4, ht4⟩; replace HS := Lib.hid (HS.out.drew.read hr4 ht4); replace HI := Lib.hid ((HI.out.drew').turnsT ht4 (fun j hj q => by have := HPB.out; unfold rset at q; omega)); have s3 := HS.out.c3; have sf3 := HS.out.free 3; have s3w : (w4.alloc (.cells #[.int .i64 (y : Int)] 3)).cell? ⟨tb, 3, none⟩ = some (.slice A3 k c3) := alloc_keep3 s3; clear hr4 ht4) | (refine step_num rfl _ _ rfl (tb + 1) _ ps (by simp [Act.eval, Act.put]) (HI.out.below1 _) (B := w4.heap.size) (y := (y : Int)) (by simp [Act.eval, Act.put]) (by simp [go_sem]) (by have := HPS.out; omega) (by have := HS.out.lt.1; simp; omega) ?_; intro v5 w5 hi5 hg5; obtain ⟨A5, c5, rfl, hc5, hn5, ha5, hm5, _⟩ := hi5.nums; rw [HPL1.out] at hc5 hi5 ⊢; have HI5 := Lib.hid hi5; have HS5 := Lib.hid ((HS.out.alloc1 _).grow hg5 (fun k hk => HI.out.own1 HPB.out k hk)); have s3 := HS5.out.c3; have sf3 := HS5.out.free 3; clear hi5 hg5 hn5 ha5))
            all_goals
              go_wp2_with fail
              go_roundw
              case rel => exact ⟨k + 1, ps ++ [(y : Int)], A5, c5, σ', by go_num, by omega, by have := HPS.out; simp; omega, HS5.out.set_ (k := 3) rfl, HI5.out.turnsT (T := fun b => b = tb) ((Turns.refl _ _).setCell _ _ rfl) (fun j hj q => by omega), HFL2.out⟩
              case measure => simp [intOf]; omega
          | none =>
            have HFF : Hid (F = ps ∧ s7 = none) := Lib.hid (by
              have h1 := HFL.out
              rw [HC7.out, show n - k = n - (k + 1) + 1 by omega] at h1
              have e : ∀ m, fldsR f (m + 1) none = ([], none) := fun _ => rfl
              rw [e] at h1
              cases h1
              simp)
            simp only [Option.isNone] at kr
            clear HFL
            have q0 := HS.out.c0
            have q1 := HS.out.c1
            have q2 := HS.out.c2
            have p0 := HS.out.free0 0
            have p1 := HS.out.free0 1
            have p2 := HS.out.free0 2
            have p3 := HS.out.free0 3
            have r0 := HS.out.r0
            have r1 := HS.out.r1
            have r2 := HS.out.r2
            have r3 := HS.out.r3
            go_wp2_with fail
            obtain ⟨W9, hW9⟩ : ∃ W9, W9 = (((wr.setCell ⟨w.heap.size, 0, none⟩ (.int .i64 (f : Int))).setCell ⟨w.heap.size, 1, none⟩ (.int .i64 hh)).setCell ⟨w.heap.size, 2, none⟩ (.int .i64 (c : Int))).setCell ⟨w.heap.size, 3, none⟩ (.slice A3 k c3) := ⟨_, rfl⟩
            have h9 : W9.heap[w.heap.size]? = some (.cells #[.int .i64 (f : Int), .int .i64 hh, .int .i64 (c : Int), .slice A3 k c3] 83 (0, 0)) := by
              rw [hW9]; exact agg_set HS.out.t0
            have z0 : W9.cell? ⟨w.heap.size, 0, none⟩ = some (.int .i64 (f : Int)) := by simp [World.cell?, h9]
            have z1 : W9.cell? ⟨w.heap.size, 1, none⟩ = some (.int .i64 hh) := by simp [World.cell?, h9]
            have z2 : W9.cell? ⟨w.heap.size, 2, none⟩ = some (.int .i64 (c : Int)) := by simp [World.cell?, h9]
            have z3 : W9.cell? ⟨w.heap.size, 3, none⟩ = some (.slice A3 k c3) := by simp [World.cell?, h9]
            have hT : Turns (fun b => b = w.heap.size) wr W9 := by rw [hW9]; exact four_turns
            have hT2 : Turns (rset rb) w W9 := by rw [hW9]; exact four_new HS.out.ts (Nat.le_refl _)
            rw [← hW9]
            clear hW9 h9
            have hne := HS.out.ne
            refine bodyPost_ret (v := .agg #[.int .i64 (f : Int), .int .i64 hh, .int .i64 (c : Int), .slice A3 k c3]) (by simp [results, Try.results48, go_sem, z0, z1, z2, z3]) rfl ⟨.slice A3 k c3, rfl, ?_, ?_, hT2⟩
            · rw [HFF.out.1]
              exact (HI.out.turnsT hT (fun j hj q => by have := HTB.out; omega)).base_ (by have := HTB.out; omega)
            · rw [HFF.out.2]
              exact HS.out.rs.turns hT (fun q => hne.1 q) (fun q => hne.2.2.1 q)
        · have d1 : decide (k < n) = false := decide_eq_false hlt
          have d2 : decide ((k : Int) < (n : Int)) = false := decide_eq_false (by omega)
          have HFF : Hid (F = ps ∧ s7 = σk) := Lib.hid (by
            have h1 := HFL.out
            rw [HC7.out, show n - k = 0 by omega] at h1
            have e : fldsR f 0 σk = ([], σk) := rfl
            rw [e] at h1
            cases h1
            simp)
          clear HFL
          have q0 := HS.out.c0
          have q1 := HS.out.c1
          have q2 := HS.out.c2
          have p0 := HS.out.free0 0
          have p1 := HS.out.free0 1
          have p2 := HS.out.free0 2
          have p3 := HS.out.free0 3
          have r0 := HS.out.r0
          have r1 := HS.out.r1
          have r2 := HS.out.r2
          have r3 := HS.out.r3
          go_wp2_with fail
          obtain ⟨W9, hW9⟩ : ∃ W9, W9 = (((wr.setCell ⟨w.heap.size, 0, none⟩ (.int .i64 (f : Int))).setCell ⟨w.heap.size, 1, none⟩ (.int .i64 hh)).setCell ⟨w.heap.size, 2, none⟩ (.int .i64 (c : Int))).setCell ⟨w.heap.size, 3, none⟩ (.slice A3 k c3) := ⟨_, rfl⟩
          have h9 : W9.heap[w.heap.size]? = some (.cells #[.int .i64 (f : Int), .int .i64 hh, .int .i64 (c : Int), .slice A3 k c3] 83 (0, 0)) := by
            rw [hW9]; exact agg_set HS.out.t0
          have z0 : W9.cell? ⟨w.heap.size, 0, none⟩ = some (.int .i64 (f : Int)) := by simp [World.cell?, h9]
          have z1 : W9.cell? ⟨w.heap.size, 1, none⟩ = some (.int .i64 hh) := by simp [World.cell?, h9]
          have z2 : W9.cell? ⟨w.heap.size, 2, none⟩ = some (.int .i64 (c : Int)) := by simp [World.cell?, h9]
          have z3 : W9.cell? ⟨w.heap.size, 3, none⟩ = some (.slice A3 k c3) := by simp [World.cell?, h9]
          have hT : Turns (fun b => b = w.heap.size) wr W9 := by rw [hW9]; exact four_turns
          have hT2 : Turns (rset rb) w W9 := by rw [hW9]; exact four_new HS.out.ts (Nat.le_refl _)
          rw [← hW9]
          clear hW9 h9
          have hne := HS.out.ne
          refine bodyPost_ret (v := .agg #[.int .i64 (f : Int), .int .i64 hh, .int .i64 (c : Int), .slice A3 k c3]) (by simp [results, Try.results48, go_sem, z0, z1, z2, z3]) rfl ⟨.slice A3 k c3, rfl, ?_, ?_, hT2⟩
          · rw [HFF.out.1]
            exact (HI.out.turnsT hT (fun j hj q => by have := HTB.out; omega)).base_ (by have := HTB.out; omega)
          · rw [HFF.out.2]
            exact HS.out.rs.turns hT (fun q => hne.1 q) (fun q => hne.2.2.1 q)
end Go.Proofs.Ytfinpgkehjbcpaa

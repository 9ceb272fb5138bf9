/- Chapter 02: a deed: Put. -/
import Derived.Test.YtpifodfckjphiaaLS
import Derived.Deep.RegionHeld3
import Derived.Deep.RegionWith
namespace Go.Proofs.Ytpifodfckjphiaa
open Go.ChangeShapes Go.WideShapes Go.ChangeAt Go.RowKit Go.Deep Go.Joins Go.Maps
set_option linter.unusedVariables false
set_option linter.unusedSimpArgs false
set_option maxRecDepth 100000 in
set_option maxHeartbeats 16000000 in
theorem does_put {X : Nat → Prop} {w : World} {s bw bm r : Nat} {R : Nat → Prop} {m : Hp} (D : Duo X w s bw bm r R m m) {k1 k2 k3 k4 : Int} {A B : Option Addr} {la lb : List Int} {nla nlb ca cb : Nat}
    (i1 : InI k1) (i2 : InI k2) (i3 : InI k3) (hA : Nums w A la) (hB : Nums w B lb) (jA : ∀ x, x ∈ la → InI x) (jB : ∀ x, x ∈ lb → InI x) (nA : la.length ≤ maxLen) (nB : lb.length ≤ maxLen) (eA : la.length = nla) (eB : lb.length = nlb)
    (xA : ∀ b off, A = some ⟨b, off, none⟩ → 0 < la.length → X b) (xB : ∀ b off, B = some ⟨b, off, none⟩ → 0 < lb.length → X b) :
    Calls Try.prog 12 #[.pointer (some ⟨s, 0, none⟩), .pointer (some ⟨r, 0, none⟩), .agg #[.int .i64 1, .int .i64 k1, .int .i64 k2, .int .i64 k3, .int .i64 k4, .slice A nla ca, .slice B nlb cb]] w fun e w' => e = .returned (.bool true) ∧ ∃ bm' R', Duo X w' s bw bm' r R' (stepV m 1 k1 k2 k3 la lb) (stepV m 1 k1 k2 k3 la lb) ∧ Keeps X w w' := by
  obtain ⟨bx, hbx⟩ : ∃ bx : Array Value, #[.int .i64 1, .int .i64 k1, .int .i64 k2, .int .i64 k3, .int .i64 k4, .slice A nla ca, .slice B nlb cb] = bx := ⟨_, rfl⟩
  have HBX := Lib.hid hbx
  have HO := Lib.hid (start_st D bx hA hB xA xB)
  have HL : Hid ((ptrs m.L).length ≤ 1000000) := by
    obtain ⟨_, _, P, _⟩ := id D
    have := len_bd P.good
    show _ ≤ _
    unfold ptrs; simp; omega
  have HPI : Hid (∀ x, x ∈ ptrs m.L → InI x) := by obtain ⟨_, _, P, _⟩ := id D; exact ptrs_in P.good
  clear D
  obtain ⟨lp, hlp⟩ : ∃ lp, ptrs m.L = lp := ⟨_, rfl⟩
  rw [hlp] at HO HL HPI
  obtain ⟨np, hnp⟩ : ∃ n, lp.length = n := ⟨_, rfl⟩
  have HNP := Lib.hid hnp
  rw [hnp] at HO
  rw [← hbx] at HO
  have HLP := Lib.hid hlp
  clear hnp hlp hbx
  have HLA := Lib.hid eA
  have HLB := Lib.hid eB
  have HNA := Lib.hid nA
  have HNB := Lib.hid nB
  have HJA := Lib.hid jA
  have HJB := Lib.hid jB
  have HI := Lib.hid (And.intro i1 (And.intro i2 i3))
  clear hA hB jA jB xA xB i1 i2 i3 nA nB eA eB
  obtain ⟨u, hu⟩ : ∃ u, wordV lp k1 = u := ⟨_, rfl⟩
  have HU := Lib.hid hu
  have HUI : Hid (InI u) := Lib.hid (by rw [← hu]; exact wordV_in HPI.out HI.out.1)
  clear hu
  obtain ⟨x, hx⟩ : ∃ x, wordV lp k3 = x := ⟨_, rfl⟩
  have HX := Lib.hid hx
  have HXI : Hid (InI x) := Lib.hid (by rw [← hx]; exact wordV_in HPI.out HI.out.2.2)
  clear hx
  obtain ⟨mm, er, hmk⟩ : ∃ mm er, putV m u k2 x = (mm, er) := ⟨_, _, rfl⟩
  have HM := Lib.hid hmk
  have HST : Hid (stepV m 1 k1 k2 k3 la lb = mm) := Lib.hid (by unfold stepV; rw [if_neg (by decide), if_pos rfl]; rw [HLP.out, HU.out, HX.out, hmk])
  clear hmk
  rw [HST.out]
  go_enter Try.func12, Try.ntmps12
  go_wp2_with (first | (go_at_call 36; (with_reducible refine (HO.out).mono ?_); rintro e w1 ⟨A1, c1, rfl, hst⟩; have HS := Lib.hid hst; clear hst; have e0 : w1.cell? ⟨w.heap.size, 0, none⟩ = some (.int .i64 1) := (by simp [World.cell?, HS.out.box, ← HBX.out]); have e1 : w1.cell? ⟨w.heap.size, 1, none⟩ = some (.int .i64 k1) := (by simp [World.cell?, HS.out.box, ← HBX.out]); have e2 : w1.cell? ⟨w.heap.size, 2, none⟩ = some (.int .i64 k2) := (by simp [World.cell?, HS.out.box, ← HBX.out]); have e3 : w1.cell? ⟨w.heap.size, 3, none⟩ = some (.int .i64 k3) := (by simp [World.cell?, HS.out.box, ← HBX.out]); have e4 : w1.cell? ⟨w.heap.size, 4, none⟩ = some (.int .i64 k4) := (by simp [World.cell?, HS.out.box, ← HBX.out]); have e5 : w1.cell? ⟨w.heap.size, 5, none⟩ = some (.slice A nla ca) := (by simp [World.cell?, HS.out.box, ← HBX.out]); have e6 : w1.cell? ⟨w.heap.size, 6, none⟩ = some (.slice B nlb cb) := (by simp [World.cell?, HS.out.box, ← HBX.out]); skip) | (go_at_call 27; (with_reducible refine (word_any' HS.out.np HNP.out HL.out k1 HI.out.1).mono ?_); rw [HU.out]; rintro e w2 ⟨rfl, hw2⟩; replace hw2 := hw2.symm; subst hw2))
  go_region_held3 (fun w' => w'.cell? ⟨w.heap.size, 2, none⟩ = some (.int .i64 k2) ∧ w'.cell? ⟨w.heap.size, 3, none⟩ = some (.int .i64 k3)) (first | assumption | (refine ⟨?_, ?_⟩ <;> first | assumption | (simp [go_sem, *]; done)) | (simp [go_sem]; done) | (simp [go_sem, *]; done)) (first | (go_at_call 27; (with_reducible refine (word_any' HS.out.drew.np HNP.out HL.out k3 HI.out.2.2).mono ?_); rw [HX.out]; rintro e w2 ⟨rfl, hw2⟩; replace hw2 := hw2.symm; subst hw2) | (go_at_call 27; (with_reducible refine (word_any' HS.out.np HNP.out HL.out k3 HI.out.2.2).mono ?_); rw [HX.out]; rintro e w2 ⟨rfl, hw2⟩; replace hw2 := hw2.symm; subst hw2) | (go_at_call 28; (with_reducible refine (sp_put HS.out.drew u k2 x HI.out.2.1 HXI.out).mono ?_); rw [HM.out]; rintro e w3 ⟨rfl, hst⟩; replace HS := Lib.hid hst; clear hst; have g2 : w3.cell? ⟨w.heap.size, 2, none⟩ = some (.int .i64 k2) := (by simp [World.cell?, HS.out.box, ← HBX.out]); have g3 : w3.cell? ⟨w.heap.size, 3, none⟩ = some (.int .i64 k3) := (by simp [World.cell?, HS.out.box, ← HBX.out]); skip) | (go_at_call 29; (with_reducible refine (sr_put HS.out u k2 x HI.out.2.1 HXI.out).mono ?_); rw [HM.out]; rintro e w4 ⟨rfl, hst⟩; replace HS := Lib.hid hst; clear hst; have g2 : w4.cell? ⟨w.heap.size, 2, none⟩ = some (.int .i64 k2) := (by simp [World.cell?, HS.out.box, ← HBX.out]); have g3 : w4.cell? ⟨w.heap.size, 3, none⟩ = some (.int .i64 k3) := (by simp [World.cell?, HS.out.box, ← HBX.out]); skip))
  go_wp2
  go_ret
  exact ⟨ret_bool (by simp), HS.out.goal⟩
set_option maxRecDepth 100000 in
set_option maxHeartbeats 16000000 in
theorem does_class {X : Nat → Prop} {w : World} {s bw bm r : Nat} {R : Nat → Prop} {m : Hp} (D : Duo X w s bw bm r R m m) {k1 k2 k3 k4 : Int} {A B : Option Addr} {la lb : List Int} {nla nlb ca cb : Nat}
    (i1 : InI k1) (i2 : InI k2) (i3 : InI k3) (hA : Nums w A la) (hB : Nums w B lb) (jA : ∀ x, x ∈ la → InI x) (jB : ∀ x, x ∈ lb → InI x) (nA : la.length ≤ maxLen) (nB : lb.length ≤ maxLen) (eA : la.length = nla) (eB : lb.length = nlb)
    (xA : ∀ b off, A = some ⟨b, off, none⟩ → 0 < la.length → X b) (xB : ∀ b off, B = some ⟨b, off, none⟩ → 0 < lb.length → X b) :
    Calls Try.prog 12 #[.pointer (some ⟨s, 0, none⟩), .pointer (some ⟨r, 0, none⟩), .agg #[.int .i64 2, .int .i64 k1, .int .i64 k2, .int .i64 k3, .int .i64 k4, .slice A nla ca, .slice B nlb cb]] w fun e w' => e = .returned (.bool true) ∧ ∃ bm' R', Duo X w' s bw bm' r R' (stepV m 2 k1 k2 k3 la lb) (stepV m 2 k1 k2 k3 la lb) ∧ Keeps X w w' := by
  obtain ⟨bx, hbx⟩ : ∃ bx : Array Value, #[.int .i64 2, .int .i64 k1, .int .i64 k2, .int .i64 k3, .int .i64 k4, .slice A nla ca, .slice B nlb cb] = bx := ⟨_, rfl⟩
  have HBX := Lib.hid hbx
  have HO := Lib.hid (start_st D bx hA hB xA xB)
  have HL : Hid ((ptrs m.L).length ≤ 1000000) := by
    obtain ⟨_, _, P, _⟩ := id D
    have := len_bd P.good
    show _ ≤ _
    unfold ptrs; simp; omega
  have HPI : Hid (∀ x, x ∈ ptrs m.L → InI x) := by obtain ⟨_, _, P, _⟩ := id D; exact ptrs_in P.good
  clear D
  obtain ⟨lp, hlp⟩ : ∃ lp, ptrs m.L = lp := ⟨_, rfl⟩
  rw [hlp] at HO HL HPI
  obtain ⟨np, hnp⟩ : ∃ n, lp.length = n := ⟨_, rfl⟩
  have HNP := Lib.hid hnp
  rw [hnp] at HO
  rw [← hbx] at HO
  have HLP := Lib.hid hlp
  clear hnp hlp hbx
  have HLA := Lib.hid eA
  have HLB := Lib.hid eB
  have HNA := Lib.hid nA
  have HNB := Lib.hid nB
  have HJA := Lib.hid jA
  have HJB := Lib.hid jB
  have HI := Lib.hid (And.intro i1 (And.intro i2 i3))
  clear hA hB jA jB xA xB i1 i2 i3 nA nB eA eB
  obtain ⟨u, hu⟩ : ∃ u, wordV lp k1 = u := ⟨_, rfl⟩
  have HU := Lib.hid hu
  have HUI : Hid (InI u) := Lib.hid (by rw [← hu]; exact wordV_in HPI.out HI.out.1)
  clear hu
  obtain ⟨x, hx⟩ : ∃ x, wordV lp k3 = x := ⟨_, rfl⟩
  have HX := Lib.hid hx
  have HXI : Hid (InI x) := Lib.hid (by rw [← hx]; exact wordV_in HPI.out HI.out.2.2)
  clear hx
  obtain ⟨mm, er, hmk⟩ : ∃ mm er, setClassV m u x = (mm, er) := ⟨_, _, rfl⟩
  have HM := Lib.hid hmk
  have HST : Hid (stepV m 2 k1 k2 k3 la lb = mm) := Lib.hid (by unfold stepV; rw [if_neg (by decide), if_neg (by decide), if_pos rfl]; rw [HLP.out, HU.out, HX.out, hmk])
  clear hmk
  rw [HST.out]
  go_enter Try.func12, Try.ntmps12
  go_wp2_with (first | (go_at_call 36; (with_reducible refine (HO.out).mono ?_); rintro e w1 ⟨A1, c1, rfl, hst⟩; have HS := Lib.hid hst; clear hst; have e0 : w1.cell? ⟨w.heap.size, 0, none⟩ = some (.int .i64 2) := (by simp [World.cell?, HS.out.box, ← HBX.out]); have e1 : w1.cell? ⟨w.heap.size, 1, none⟩ = some (.int .i64 k1) := (by simp [World.cell?, HS.out.box, ← HBX.out]); have e2 : w1.cell? ⟨w.heap.size, 2, none⟩ = some (.int .i64 k2) := (by simp [World.cell?, HS.out.box, ← HBX.out]); have e3 : w1.cell? ⟨w.heap.size, 3, none⟩ = some (.int .i64 k3) := (by simp [World.cell?, HS.out.box, ← HBX.out]); have e4 : w1.cell? ⟨w.heap.size, 4, none⟩ = some (.int .i64 k4) := (by simp [World.cell?, HS.out.box, ← HBX.out]); have e5 : w1.cell? ⟨w.heap.size, 5, none⟩ = some (.slice A nla ca) := (by simp [World.cell?, HS.out.box, ← HBX.out]); have e6 : w1.cell? ⟨w.heap.size, 6, none⟩ = some (.slice B nlb cb) := (by simp [World.cell?, HS.out.box, ← HBX.out]); skip) | (go_at_call 27; (with_reducible refine (word_any' HS.out.np HNP.out HL.out k1 HI.out.1).mono ?_); rw [HU.out]; rintro e w2 ⟨rfl, hw2⟩; replace hw2 := hw2.symm; subst hw2))
  go_region_held3 (fun w' => w'.cell? ⟨w.heap.size, 3, none⟩ = some (.int .i64 k3)) (first | assumption | (refine ⟨?_, ?_⟩ <;> first | assumption | (simp [go_sem, *]; done)) | (simp [go_sem]; done) | (simp [go_sem, *]; done)) (first | (go_at_call 27; (with_reducible refine (word_any' HS.out.drew.np HNP.out HL.out k3 HI.out.2.2).mono ?_); rw [HX.out]; rintro e w2 ⟨rfl, hw2⟩; replace hw2 := hw2.symm; subst hw2) | (go_at_call 27; (with_reducible refine (word_any' HS.out.np HNP.out HL.out k3 HI.out.2.2).mono ?_); rw [HX.out]; rintro e w2 ⟨rfl, hw2⟩; replace hw2 := hw2.symm; subst hw2) | (go_at_call 39; (with_reducible refine (sp_setClass HS.out.drew u x HXI.out).mono ?_); rw [HM.out]; rintro e w3 ⟨rfl, hst⟩; replace HS := Lib.hid hst; clear hst; have g3 : w3.cell? ⟨w.heap.size, 3, none⟩ = some (.int .i64 k3) := (by simp [World.cell?, HS.out.box, ← HBX.out]); skip) | (go_at_call 40; (with_reducible refine (sr_setClass HS.out u x HXI.out).mono ?_); rw [HM.out]; rintro e w4 ⟨rfl, hst⟩; replace HS := Lib.hid hst; clear hst; have g3 : w4.cell? ⟨w.heap.size, 3, none⟩ = some (.int .i64 k3) := (by simp [World.cell?, HS.out.box, ← HBX.out]); skip))
  go_wp2
  go_ret
  exact ⟨ret_bool (by simp), HS.out.goal⟩
set_option maxRecDepth 100000 in
set_option maxHeartbeats 16000000 in
theorem does_hash {X : Nat → Prop} {w : World} {s bw bm r : Nat} {R : Nat → Prop} {m : Hp} (D : Duo X w s bw bm r R m m) {k1 k2 k3 k4 : Int} {A B : Option Addr} {la lb : List Int} {nla nlb ca cb : Nat}
    (i1 : InI k1) (i2 : InI k2) (i3 : InI k3) (hA : Nums w A la) (hB : Nums w B lb) (jA : ∀ x, x ∈ la → InI x) (jB : ∀ x, x ∈ lb → InI x) (nA : la.length ≤ maxLen) (nB : lb.length ≤ maxLen) (eA : la.length = nla) (eB : lb.length = nlb)
    (xA : ∀ b off, A = some ⟨b, off, none⟩ → 0 < la.length → X b) (xB : ∀ b off, B = some ⟨b, off, none⟩ → 0 < lb.length → X b) :
    Calls Try.prog 12 #[.pointer (some ⟨s, 0, none⟩), .pointer (some ⟨r, 0, none⟩), .agg #[.int .i64 3, .int .i64 k1, .int .i64 k2, .int .i64 k3, .int .i64 k4, .slice A nla ca, .slice B nlb cb]] w fun e w' => e = .returned (.bool true) ∧ ∃ bm' R', Duo X w' s bw bm' r R' (stepV m 3 k1 k2 k3 la lb) (stepV m 3 k1 k2 k3 la lb) ∧ Keeps X w w' := by
  obtain ⟨bx, hbx⟩ : ∃ bx : Array Value, #[.int .i64 3, .int .i64 k1, .int .i64 k2, .int .i64 k3, .int .i64 k4, .slice A nla ca, .slice B nlb cb] = bx := ⟨_, rfl⟩
  have HBX := Lib.hid hbx
  have HO := Lib.hid (start_st D bx hA hB xA xB)
  have HL : Hid ((ptrs m.L).length ≤ 1000000) := by
    obtain ⟨_, _, P, _⟩ := id D
    have := len_bd P.good
    show _ ≤ _
    unfold ptrs; simp; omega
  have HPI : Hid (∀ x, x ∈ ptrs m.L → InI x) := by obtain ⟨_, _, P, _⟩ := id D; exact ptrs_in P.good
  clear D
  obtain ⟨lp, hlp⟩ : ∃ lp, ptrs m.L = lp := ⟨_, rfl⟩
  rw [hlp] at HO HL HPI
  obtain ⟨np, hnp⟩ : ∃ n, lp.length = n := ⟨_, rfl⟩
  have HNP := Lib.hid hnp
  rw [hnp] at HO
  rw [← hbx] at HO
  have HLP := Lib.hid hlp
  clear hnp hlp hbx
  have HLA := Lib.hid eA
  have HLB := Lib.hid eB
  have HNA := Lib.hid nA
  have HNB := Lib.hid nB
  have HJA := Lib.hid jA
  have HJB := Lib.hid jB
  have HI := Lib.hid (And.intro i1 (And.intro i2 i3))
  clear hA hB jA jB xA xB i1 i2 i3 nA nB eA eB
  obtain ⟨u, hu⟩ : ∃ u, wordV lp k1 = u := ⟨_, rfl⟩
  have HU := Lib.hid hu
  have HUI : Hid (InI u) := Lib.hid (by rw [← hu]; exact wordV_in HPI.out HI.out.1)
  clear hu
  obtain ⟨mm, er, hmk⟩ : ∃ mm er, setHashV m u k2 = (mm, er) := ⟨_, _, rfl⟩
  have HM := Lib.hid hmk
  have HST : Hid (stepV m 3 k1 k2 k3 la lb = mm) := Lib.hid (by unfold stepV; rw [if_neg (by decide), if_neg (by decide), if_neg (by decide), if_pos rfl]; rw [HLP.out, HU.out, hmk])
  clear hmk
  rw [HST.out]
  go_enter Try.func12, Try.ntmps12
  go_wp2_with (first | (go_at_call 36; (with_reducible refine (HO.out).mono ?_); rintro e w1 ⟨A1, c1, rfl, hst⟩; have HS := Lib.hid hst; clear hst; have e0 : w1.cell? ⟨w.heap.size, 0, none⟩ = some (.int .i64 3) := (by simp [World.cell?, HS.out.box, ← HBX.out]); have e1 : w1.cell? ⟨w.heap.size, 1, none⟩ = some (.int .i64 k1) := (by simp [World.cell?, HS.out.box, ← HBX.out]); have e2 : w1.cell? ⟨w.heap.size, 2, none⟩ = some (.int .i64 k2) := (by simp [World.cell?, HS.out.box, ← HBX.out]); have e3 : w1.cell? ⟨w.heap.size, 3, none⟩ = some (.int .i64 k3) := (by simp [World.cell?, HS.out.box, ← HBX.out]); have e4 : w1.cell? ⟨w.heap.size, 4, none⟩ = some (.int .i64 k4) := (by simp [World.cell?, HS.out.box, ← HBX.out]); have e5 : w1.cell? ⟨w.heap.size, 5, none⟩ = some (.slice A nla ca) := (by simp [World.cell?, HS.out.box, ← HBX.out]); have e6 : w1.cell? ⟨w.heap.size, 6, none⟩ = some (.slice B nlb cb) := (by simp [World.cell?, HS.out.box, ← HBX.out]); skip) | (go_at_call 27; (with_reducible refine (word_any' HS.out.np HNP.out HL.out k1 HI.out.1).mono ?_); rw [HU.out]; rintro e w2 ⟨rfl, hw2⟩; replace hw2 := hw2.symm; subst hw2))
  go_region_held3 (fun w' => w'.cell? ⟨w.heap.size, 2, none⟩ = some (.int .i64 k2)) (first | assumption | (refine ⟨?_, ?_⟩ <;> first | assumption | (simp [go_sem, *]; done)) | (simp [go_sem]; done) | (simp [go_sem, *]; done)) (first | (go_at_call 41; (with_reducible refine (sp_setHash HS.out.drew u k2 HI.out.2.1).mono ?_); rw [HM.out]; rintro e w3 ⟨rfl, hst⟩; replace HS := Lib.hid hst; clear hst; have g2 : w3.cell? ⟨w.heap.size, 2, none⟩ = some (.int .i64 k2) := (by simp [World.cell?, HS.out.box, ← HBX.out]); skip) | (go_at_call 42; (with_reducible refine (sr_setHash HS.out u k2 HI.out.2.1).mono ?_); rw [HM.out]; rintro e w4 ⟨rfl, hst⟩; replace HS := Lib.hid hst; clear hst; have g2 : w4.cell? ⟨w.heap.size, 2, none⟩ = some (.int .i64 k2) := (by simp [World.cell?, HS.out.box, ← HBX.out]); skip))
  go_wp2
  go_ret
  exact ⟨ret_bool (by simp), HS.out.goal⟩
set_option maxRecDepth 100000 in
set_option maxHeartbeats 16000000 in
theorem does_made {X : Nat → Prop} {w : World} {s bw bm r : Nat} {R : Nat → Prop} {m : Hp} (D : Duo X w s bw bm r R m m) {k1 k2 k3 k4 : Int} {A B : Option Addr} {la lb : List Int} {nla nlb ca cb : Nat}
    (i1 : InI k1) (i2 : InI k2) (i3 : InI k3) (hA : Nums w A la) (hB : Nums w B lb) (jA : ∀ x, x ∈ la → InI x) (jB : ∀ x, x ∈ lb → InI x) (nA : la.length ≤ maxLen) (nB : lb.length ≤ maxLen) (eA : la.length = nla) (eB : lb.length = nlb)
    (xA : ∀ b off, A = some ⟨b, off, none⟩ → 0 < la.length → X b) (xB : ∀ b off, B = some ⟨b, off, none⟩ → 0 < lb.length → X b) :
    Calls Try.prog 12 #[.pointer (some ⟨s, 0, none⟩), .pointer (some ⟨r, 0, none⟩), .agg #[.int .i64 7, .int .i64 k1, .int .i64 k2, .int .i64 k3, .int .i64 k4, .slice A nla ca, .slice B nlb cb]] w fun e w' => e = .returned (.bool true) ∧ ∃ bm' R', Duo X w' s bw bm' r R' (stepV m 7 k1 k2 k3 la lb) (stepV m 7 k1 k2 k3 la lb) ∧ Keeps X w w' := by
  obtain ⟨bx, hbx⟩ : ∃ bx : Array Value, #[.int .i64 7, .int .i64 k1, .int .i64 k2, .int .i64 k3, .int .i64 k4, .slice A nla ca, .slice B nlb cb] = bx := ⟨_, rfl⟩
  have HBX := Lib.hid hbx
  have HO := Lib.hid (start_st D bx hA hB xA xB)
  have HL : Hid ((ptrs m.L).length ≤ 1000000) := by
    obtain ⟨_, _, P, _⟩ := id D
    have := len_bd P.good
    show _ ≤ _
    unfold ptrs; simp; omega
  have HPI : Hid (∀ x, x ∈ ptrs m.L → InI x) := by obtain ⟨_, _, P, _⟩ := id D; exact ptrs_in P.good
  clear D
  obtain ⟨lp, hlp⟩ : ∃ lp, ptrs m.L = lp := ⟨_, rfl⟩
  rw [hlp] at HO HL HPI
  obtain ⟨np, hnp⟩ : ∃ n, lp.length = n := ⟨_, rfl⟩
  have HNP := Lib.hid hnp
  rw [hnp] at HO
  rw [← hbx] at HO
  have HLP := Lib.hid hlp
  clear hnp hlp hbx
  have HLA := Lib.hid eA
  have HLB := Lib.hid eB
  have HNA := Lib.hid nA
  have HNB := Lib.hid nB
  have HJA := Lib.hid jA
  have HJB := Lib.hid jB
  have HI := Lib.hid (And.intro i1 (And.intro i2 i3))
  clear hA hB jA jB xA xB i1 i2 i3 nA nB eA eB
  obtain ⟨u, hu⟩ : ∃ u, wordV lp k1 = u := ⟨_, rfl⟩
  have HU := Lib.hid hu
  have HUI : Hid (InI u) := Lib.hid (by rw [← hu]; exact wordV_in HPI.out HI.out.1)
  clear hu
  obtain ⟨mm, er, hmk⟩ : ∃ mm er, setMadeV m k2 = (mm, er) := ⟨_, _, rfl⟩
  have HM := Lib.hid hmk
  have HST : Hid (stepV m 7 k1 k2 k3 la lb = mm) := Lib.hid (by unfold stepV; rw [if_neg (by decide), if_neg (by decide), if_neg (by decide), if_neg (by decide), if_pos rfl]; rw [hmk])
  clear hmk
  rw [HST.out]
  go_enter Try.func12, Try.ntmps12
  go_wp2_with (first | (go_at_call 36; (with_reducible refine (HO.out).mono ?_); rintro e w1 ⟨A1, c1, rfl, hst⟩; have HS := Lib.hid hst; clear hst; have e0 : w1.cell? ⟨w.heap.size, 0, none⟩ = some (.int .i64 7) := (by simp [World.cell?, HS.out.box, ← HBX.out]); have e1 : w1.cell? ⟨w.heap.size, 1, none⟩ = some (.int .i64 k1) := (by simp [World.cell?, HS.out.box, ← HBX.out]); have e2 : w1.cell? ⟨w.heap.size, 2, none⟩ = some (.int .i64 k2) := (by simp [World.cell?, HS.out.box, ← HBX.out]); have e3 : w1.cell? ⟨w.heap.size, 3, none⟩ = some (.int .i64 k3) := (by simp [World.cell?, HS.out.box, ← HBX.out]); have e4 : w1.cell? ⟨w.heap.size, 4, none⟩ = some (.int .i64 k4) := (by simp [World.cell?, HS.out.box, ← HBX.out]); have e5 : w1.cell? ⟨w.heap.size, 5, none⟩ = some (.slice A nla ca) := (by simp [World.cell?, HS.out.box, ← HBX.out]); have e6 : w1.cell? ⟨w.heap.size, 6, none⟩ = some (.slice B nlb cb) := (by simp [World.cell?, HS.out.box, ← HBX.out]); skip) | (go_at_call 27; (with_reducible refine (word_any' HS.out.np HNP.out HL.out k1 HI.out.1).mono ?_); rw [HU.out]; rintro e w2 ⟨rfl, hw2⟩; replace hw2 := hw2.symm; subst hw2))
  go_region_held3 (fun w' => w'.cell? ⟨w.heap.size, 2, none⟩ = some (.int .i64 k2)) (first | assumption | (refine ⟨?_, ?_⟩ <;> first | assumption | (simp [go_sem, *]; done)) | (simp [go_sem]; done) | (simp [go_sem, *]; done)) (first | (go_at_call 43; (with_reducible refine (sp_setMade HS.out.drew k2 HI.out.2.1).mono ?_); rw [HM.out]; rintro e w3 ⟨rfl, hst⟩; replace HS := Lib.hid hst; clear hst; have g2 : w3.cell? ⟨w.heap.size, 2, none⟩ = some (.int .i64 k2) := (by simp [World.cell?, HS.out.box, ← HBX.out]); skip) | (go_at_call 44; (with_reducible refine (sr_setMade HS.out k2 HI.out.2.1).mono ?_); rw [HM.out]; rintro e w4 ⟨rfl, hst⟩; replace HS := Lib.hid hst; clear hst; have g2 : w4.cell? ⟨w.heap.size, 2, none⟩ = some (.int .i64 k2) := (by simp [World.cell?, HS.out.box, ← HBX.out]); skip))
  go_wp2
  go_ret
  exact ⟨ret_bool (by simp), HS.out.goal⟩
set_option maxRecDepth 100000 in
set_option maxHeartbeats 16000000 in
theorem does_make {X : Nat → Prop} {w : World} {s bw bm r : Nat} {R : Nat → Prop} {m : Hp} (D : Duo X w s bw bm r R m m) {k1 k2 k3 k4 : Int} {A B : Option Addr} {la lb : List Int} {nla nlb ca cb : Nat}
    (i1 : InI k1) (i2 : InI k2) (i3 : InI k3) (hA : Nums w A la) (hB : Nums w B lb) (jA : ∀ x, x ∈ la → InI x) (jB : ∀ x, x ∈ lb → InI x) (nA : la.length ≤ maxLen) (nB : lb.length ≤ maxLen) (eA : la.length = nla) (eB : lb.length = nlb)
    (xA : ∀ b off, A = some ⟨b, off, none⟩ → 0 < la.length → X b) (xB : ∀ b off, B = some ⟨b, off, none⟩ → 0 < lb.length → X b) :
    Calls Try.prog 12 #[.pointer (some ⟨s, 0, none⟩), .pointer (some ⟨r, 0, none⟩), .agg #[.int .i64 0, .int .i64 k1, .int .i64 k2, .int .i64 k3, .int .i64 k4, .slice A nla ca, .slice B nlb cb]] w fun e w' => e = .returned (.bool true) ∧ ∃ bm' R', Duo X w' s bw bm' r R' (stepV m 0 k1 k2 k3 la lb) (stepV m 0 k1 k2 k3 la lb) ∧ Keeps X w w' := by
  obtain ⟨bx, hbx⟩ : ∃ bx : Array Value, #[.int .i64 0, .int .i64 k1, .int .i64 k2, .int .i64 k3, .int .i64 k4, .slice A nla ca, .slice B nlb cb] = bx := ⟨_, rfl⟩
  have HBX := Lib.hid hbx
  have HO := Lib.hid (start_st D bx hA hB xA xB)
  have HL : Hid ((ptrs m.L).length ≤ 1000000) := by
    obtain ⟨_, _, P, _⟩ := id D
    have := len_bd P.good
    show _ ≤ _
    unfold ptrs; simp; omega
  have HPI : Hid (∀ x, x ∈ ptrs m.L → InI x) := by obtain ⟨_, _, P, _⟩ := id D; exact ptrs_in P.good
  clear D
  obtain ⟨lp, hlp⟩ : ∃ lp, ptrs m.L = lp := ⟨_, rfl⟩
  rw [hlp] at HO HL HPI
  obtain ⟨np, hnp⟩ : ∃ n, lp.length = n := ⟨_, rfl⟩
  have HNP := Lib.hid hnp
  rw [hnp] at HO
  rw [← hbx] at HO
  have HLP := Lib.hid hlp
  clear hnp hlp hbx
  have HLA := Lib.hid eA
  have HLB := Lib.hid eB
  have HNA := Lib.hid nA
  have HNB := Lib.hid nB
  have HJA := Lib.hid jA
  have HJB := Lib.hid jB
  have HI := Lib.hid (And.intro i1 (And.intro i2 i3))
  clear hA hB jA jB xA xB i1 i2 i3 nA nB eA eB
  obtain ⟨u, hu⟩ : ∃ u, wordV lp k1 = u := ⟨_, rfl⟩
  have HU := Lib.hid hu
  have HUI : Hid (InI u) := Lib.hid (by rw [← hu]; exact wordV_in HPI.out HI.out.1)
  clear hu
  obtain ⟨mm, p, er, hmk⟩ : ∃ mm p er, makeV m u k2 k3 = (mm, p, er) := ⟨_, _, _, rfl⟩
  have HM := Lib.hid hmk
  have HST : Hid (stepV m 0 k1 k2 k3 la lb = mm) := Lib.hid (by unfold stepV; rw [if_pos rfl]; rw [HLP.out, HU.out, hmk])
  clear hmk
  rw [HST.out]
  go_enter Try.func12, Try.ntmps12
  go_wp2_with (first | (go_at_call 36; (with_reducible refine (HO.out).mono ?_); rintro e w1 ⟨A1, c1, rfl, hst⟩; have HS := Lib.hid hst; clear hst; have e0 : w1.cell? ⟨w.heap.size, 0, none⟩ = some (.int .i64 0) := (by simp [World.cell?, HS.out.box, ← HBX.out]); have e1 : w1.cell? ⟨w.heap.size, 1, none⟩ = some (.int .i64 k1) := (by simp [World.cell?, HS.out.box, ← HBX.out]); have e2 : w1.cell? ⟨w.heap.size, 2, none⟩ = some (.int .i64 k2) := (by simp [World.cell?, HS.out.box, ← HBX.out]); have e3 : w1.cell? ⟨w.heap.size, 3, none⟩ = some (.int .i64 k3) := (by simp [World.cell?, HS.out.box, ← HBX.out]); have e4 : w1.cell? ⟨w.heap.size, 4, none⟩ = some (.int .i64 k4) := (by simp [World.cell?, HS.out.box, ← HBX.out]); have e5 : w1.cell? ⟨w.heap.size, 5, none⟩ = some (.slice A nla ca) := (by simp [World.cell?, HS.out.box, ← HBX.out]); have e6 : w1.cell? ⟨w.heap.size, 6, none⟩ = some (.slice B nlb cb) := (by simp [World.cell?, HS.out.box, ← HBX.out]); skip) | (go_at_call 27; (with_reducible refine (word_any' HS.out.np HNP.out HL.out k1 HI.out.1).mono ?_); rw [HU.out]; rintro e w2 ⟨rfl, hw2⟩; replace hw2 := hw2.symm; subst hw2) | (go_at_call 37; (with_reducible refine (sp_make HS.out u k2 k3 HUI.out HI.out.2.1 HI.out.2.2).mono ?_); rw [HM.out]; rintro e w3 ⟨rfl, hst⟩; replace HS := Lib.hid hst; clear hst; have g2 : w3.cell? ⟨w.heap.size, 2, none⟩ = some (.int .i64 k2) := (by simp [World.cell?, HS.out.box, ← HBX.out]); have g3 : w3.cell? ⟨w.heap.size, 3, none⟩ = some (.int .i64 k3) := (by simp [World.cell?, HS.out.box, ← HBX.out]); skip) | (go_at_call 38; (with_reducible refine (sr_make HS.out u k2 k3 HUI.out HI.out.2.1 HI.out.2.2).mono ?_); rw [HM.out]; rintro e w4 ⟨rfl, hst⟩; replace HS := Lib.hid hst; clear hst; have g2 : w4.cell? ⟨w.heap.size, 2, none⟩ = some (.int .i64 k2) := (by simp [World.cell?, HS.out.box, ← HBX.out]); have g3 : w4.cell? ⟨w.heap.size, 3, none⟩ = some (.int .i64 k3) := (by simp [World.cell?, HS.out.box, ← HBX.out]); skip))
  go_ret
  exact ⟨ret_bool (by simp), HS.out.goal⟩
end Go.Proofs.Ytpifodfckjphiaa

/- Chapter 02: the law's does. -/
import Derived.Test.YtpifodfckjphiaaLSA
import Derived.Test.YtpifodfckjphiaaLST
import Derived.Test.YtpifodfckjphiaaLSK
import Derived.Deep.RegionWith
namespace Go.Proofs.Ytpifodfckjphiaa
open Go.ChangeShapes Go.WideShapes Go.ChangeAt Go.RowKit Go.Deep Go.Joins Go.Maps
set_option linter.unusedVariables false
set_option linter.unusedSimpArgs false
set_option maxRecDepth 100000 in
set_option maxHeartbeats 16000000 in
theorem does_get {X : Nat → Prop} {w : World} {s bw bm r : Nat} {R : Nat → Prop} {m : Hp} (D : Duo X w s bw bm r R m m) {k0 k1 k2 k3 k4 : Int} (z0 : (k0 == 0) = false) (z1 : (k0 == 1) = false) (z2 : (k0 == 2) = false) (z3 : (k0 == 3) = false) (z7 : (k0 == 7) = false) (z4 : (k0 == 4) = false) (z5 : (k0 == 5) = false) {A B : Option Addr} {la lb : List Int} {nla nlb ca cb : Nat}
    (i1 : InI k1) (i2 : InI k2) (i3 : InI k3) (hA : Nums w A la) (hB : Nums w B lb) (jA : ∀ x, x ∈ la → InI x) (jB : ∀ x, x ∈ lb → InI x) (nA : la.length ≤ maxLen) (nB : lb.length ≤ maxLen) (eA : la.length = nla) (eB : lb.length = nlb)
    (xA : ∀ b off, A = some ⟨b, off, none⟩ → 0 < la.length → X b) (xB : ∀ b off, B = some ⟨b, off, none⟩ → 0 < lb.length → X b) :
    Calls Try.prog 12 #[.pointer (some ⟨s, 0, none⟩), .pointer (some ⟨r, 0, none⟩), .agg #[.int .i64 k0, .int .i64 k1, .int .i64 k2, .int .i64 k3, .int .i64 k4, .slice A nla ca, .slice B nlb cb]] w fun e w' => e = .returned (.bool true) ∧ ∃ bm' R', Duo X w' s bw bm' r R' (stepV m k0 k1 k2 k3 la lb) (stepV m k0 k1 k2 k3 la lb) ∧ Keeps X w w' := by
  obtain ⟨bx, hbx⟩ : ∃ bx : Array Value, #[.int .i64 k0, .int .i64 k1, .int .i64 k2, .int .i64 k3, .int .i64 k4, .slice A nla ca, .slice B nlb cb] = bx := ⟨_, rfl⟩
  have HBX := Lib.hid hbx
  have HO := Lib.hid (start_st D bx hA hB xA xB)
  have HL : Hid ((ptrs m.L).length ≤ 1000000) := by
    obtain ⟨_, _, P, _⟩ := id D
    have := len_bd P.good
    show _ ≤ _
    unfold ptrs; simp; omega
  have HPI : Hid (∀ x, x ∈ ptrs m.L → InI x) := by obtain ⟨_, _, P, _⟩ := id D; exact ptrs_in P.good
  clear D
  obtain ⟨lp, hlp⟩ : ∃ lp, ptrs m.L = lp := ⟨_, rfl⟩
  rw [hlp] at HO HL HPI
  obtain ⟨np, hnp⟩ : ∃ n, lp.length = n := ⟨_, rfl⟩
  have HNP := Lib.hid hnp
  rw [hnp] at HO
  rw [← hbx] at HO
  have HLP := Lib.hid hlp
  clear hnp hlp hbx
  have HLA := Lib.hid eA
  have HLB := Lib.hid eB
  have HNA := Lib.hid nA
  have HNB := Lib.hid nB
  have HJA := Lib.hid jA
  have HJB := Lib.hid jB
  have HI := Lib.hid (And.intro i1 (And.intro i2 i3))
  clear hA hB jA jB xA xB i1 i2 i3 nA nB eA eB
  obtain ⟨u, hu⟩ : ∃ u, wordV lp k1 = u := ⟨_, rfl⟩
  have HU := Lib.hid hu
  have HUI : Hid (InI u) := Lib.hid (by rw [← hu]; exact wordV_in HPI.out HI.out.1)
  clear hu
  obtain ⟨p, er, hmk⟩ : ∃ p er, getV m.L u k2 = (p, er) := ⟨_, _, rfl⟩
  have HM := Lib.hid hmk
  have HST : Hid (stepV m k0 k1 k2 k3 la lb = m) := Lib.hid (by
    have e : ∀ n : Int, (k0 == n) = false → ¬ k0 = n := fun n h => by simpa using h
    unfold stepV
    rw [if_neg (e _ z0), if_neg (e _ z1), if_neg (e _ z2), if_neg (e _ z3), if_neg (e _ z7), if_neg (e _ z4), if_neg (e _ z5)])
  clear hmk
  rw [HST.out]
  go_enter Try.func12, Try.ntmps12
  go_wp2_with (first | (go_at_call 36; (with_reducible refine (HO.out).mono ?_); rintro e w1 ⟨A1, c1, rfl, hst⟩; have HS := Lib.hid hst; clear hst; have e0 : w1.cell? ⟨w.heap.size, 0, none⟩ = some (.int .i64 k0) := (by simp [World.cell?, HS.out.box, ← HBX.out]); have e1 : w1.cell? ⟨w.heap.size, 1, none⟩ = some (.int .i64 k1) := (by simp [World.cell?, HS.out.box, ← HBX.out]); have e2 : w1.cell? ⟨w.heap.size, 2, none⟩ = some (.int .i64 k2) := (by simp [World.cell?, HS.out.box, ← HBX.out]); have e3 : w1.cell? ⟨w.heap.size, 3, none⟩ = some (.int .i64 k3) := (by simp [World.cell?, HS.out.box, ← HBX.out]); have e4 : w1.cell? ⟨w.heap.size, 4, none⟩ = some (.int .i64 k4) := (by simp [World.cell?, HS.out.box, ← HBX.out]); have e5 : w1.cell? ⟨w.heap.size, 5, none⟩ = some (.slice A nla ca) := (by simp [World.cell?, HS.out.box, ← HBX.out]); have e6 : w1.cell? ⟨w.heap.size, 6, none⟩ = some (.slice B nlb cb) := (by simp [World.cell?, HS.out.box, ← HBX.out]); skip) | (go_at_call 27; (with_reducible refine (word_any' HS.out.np HNP.out HL.out k1 HI.out.1).mono ?_); rw [HU.out]; rintro e w2 ⟨rfl, hw2⟩; replace hw2 := hw2.symm; subst hw2) | (go_at_call 24; (with_reducible refine (sp_get HS.out u k2 HI.out.2.1).mono ?_); rw [HM.out]; rintro e w3 ⟨rfl, hst⟩; replace HS := Lib.hid hst; clear hst; have g2 : w3.cell? ⟨w.heap.size, 2, none⟩ = some (.int .i64 k2) := (by simp [World.cell?, HS.out.box, ← HBX.out]); have g3 : w3.cell? ⟨w.heap.size, 3, none⟩ = some (.int .i64 k3) := (by simp [World.cell?, HS.out.box, ← HBX.out]); skip) | (go_at_call 47; (with_reducible refine (sr_get HS.out u k2 HI.out.2.1).mono ?_); rw [HM.out]; rintro e w4 ⟨rfl, hw4⟩; replace hw4 := hw4.symm; subst hw4))
  go_ret
  exact ⟨ret_bool (by simp), HS.out.goal⟩
theorem does_any {X : Nat → Prop} {w : World} {s bw bm r : Nat} {R : Nat → Prop} {m : Hp} (D : Duo X w s bw bm r R m m) {k0 k1 k2 k3 k4 : Int} {A B : Option Addr} {la lb : List Int} {nla nlb ca cb : Nat}
    (i1 : InI k1) (i2 : InI k2) (i3 : InI k3) (hA : Nums w A la) (hB : Nums w B lb) (jA : ∀ x, x ∈ la → InI x) (jB : ∀ x, x ∈ lb → InI x) (nA : la.length ≤ maxLen) (nB : lb.length ≤ maxLen) (eA : la.length = nla) (eB : lb.length = nlb)
    (xA : ∀ b off, A = some ⟨b, off, none⟩ → 0 < la.length → X b) (xB : ∀ b off, B = some ⟨b, off, none⟩ → 0 < lb.length → X b) :
    Calls Try.prog 12 #[.pointer (some ⟨s, 0, none⟩), .pointer (some ⟨r, 0, none⟩), .agg #[.int .i64 k0, .int .i64 k1, .int .i64 k2, .int .i64 k3, .int .i64 k4, .slice A nla ca, .slice B nlb cb]] w fun e w' => e = .returned (.bool true) ∧ ∃ bm' R', Duo X w' s bw bm' r R' (stepV m k0 k1 k2 k3 la lb) (stepV m k0 k1 k2 k3 la lb) ∧ Keeps X w w' := by
  by_cases q0 : k0 = 0
  · subst q0; exact does_make D i1 i2 i3 hA hB jA jB nA nB eA eB xA xB
  by_cases q1 : k0 = 1
  · subst q1; exact does_put D i1 i2 i3 hA hB jA jB nA nB eA eB xA xB
  by_cases q2 : k0 = 2
  · subst q2; exact does_class D i1 i2 i3 hA hB jA jB nA nB eA eB xA xB
  by_cases q3 : k0 = 3
  · subst q3; exact does_hash D i1 i2 i3 hA hB jA jB nA nB eA eB xA xB
  by_cases q7 : k0 = 7
  · subst q7; exact does_made D i1 i2 i3 hA hB jA jB nA nB eA eB xA xB
  by_cases q4 : k0 = 4
  · subst q4; exact does_keep D i1 i2 i3 hA hB jA jB nA nB eA eB xA xB
  by_cases q5 : k0 = 5
  · subst q5; exact does_turn D i1 i2 i3 hA hB jA jB nA nB eA eB xA xB
  have e : ∀ n : Int, k0 ≠ n → (k0 == n) = false := fun n h => by simpa using h
  exact does_get D (e _ q0) (e _ q1) (e _ q2) (e _ q3) (e _ q7) (e _ q4) (e _ q5) i1 i2 i3 hA hB jA jB nA nB eA eB xA xB
end Go.Proofs.Ytpifodfckjphiaa

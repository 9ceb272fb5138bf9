/- Chapter 02: a deed: Turn. -/
import Derived.Test.YtpifodfckjphiaaLS
import Derived.Deep.RegionHeld3
import Derived.Deep.RegionWith
namespace Go.Proofs.Ytpifodfckjphiaa
open Go.ChangeShapes Go.WideShapes Go.ChangeAt Go.RowKit Go.Deep Go.Joins Go.Maps
set_option linter.unusedVariables false
set_option linter.unusedSimpArgs false
set_option maxRecDepth 100000 in
set_option maxHeartbeats 16000000 in
theorem does_turn {X : Nat → Prop} {w : World} {s bw bm r : Nat} {R : Nat → Prop} {m : Hp} (D : Duo X w s bw bm r R m m) {k1 k2 k3 k4 : Int} {A B : Option Addr} {la lb : List Int} {nla nlb ca cb : Nat}
    (i1 : InI k1) (i2 : InI k2) (i3 : InI k3) (hA : Nums w A la) (hB : Nums w B lb) (jA : ∀ x, x ∈ la → InI x) (jB : ∀ x, x ∈ lb → InI x) (nA : la.length ≤ maxLen) (nB : lb.length ≤ maxLen) (eA : la.length = nla) (eB : lb.length = nlb)
    (xA : ∀ b off, A = some ⟨b, off, none⟩ → 0 < la.length → X b) (xB : ∀ b off, B = some ⟨b, off, none⟩ → 0 < lb.length → X b) :
    Calls Try.prog 12 #[.pointer (some ⟨s, 0, none⟩), .pointer (some ⟨r, 0, none⟩), .agg #[.int .i64 5, .int .i64 k1, .int .i64 k2, .int .i64 k3, .int .i64 k4, .slice A nla ca, .slice B nlb cb]] w fun e w' => e = .returned (.bool true) ∧ ∃ bm' R', Duo X w' s bw bm' r R' (stepV m 5 k1 k2 k3 la lb) (stepV m 5 k1 k2 k3 la lb) ∧ Keeps X w w' := by
  obtain ⟨bx, hbx⟩ : ∃ bx : Array Value, #[.int .i64 5, .int .i64 k1, .int .i64 k2, .int .i64 k3, .int .i64 k4, .slice A nla ca, .slice B nlb cb] = bx := ⟨_, rfl⟩
  have HBX := Lib.hid hbx
  have HO := Lib.hid (start_st D bx hA hB xA xB)
  have HL : Hid ((ptrs m.L).length ≤ 1000000) := by
    obtain ⟨_, _, P, _⟩ := id D
    have := len_bd P.good
    show _ ≤ _
    unfold ptrs; simp; omega
  have HPI : Hid (∀ x, x ∈ ptrs m.L → InI x) := by obtain ⟨_, _, P, _⟩ := id D; exact ptrs_in P.good
  clear D
  obtain ⟨lp, hlp⟩ : ∃ lp, ptrs m.L = lp := ⟨_, rfl⟩
  rw [hlp] at HO HL HPI
  obtain ⟨np, hnp⟩ : ∃ n, lp.length = n := ⟨_, rfl⟩
  have HNP := Lib.hid hnp
  rw [hnp] at HO
  rw [← hbx] at HO
  have HLP := Lib.hid hlp
  clear hnp hlp hbx
  have HLA := Lib.hid eA
  have HLB := Lib.hid eB
  have HNA := Lib.hid nA
  have HNB := Lib.hid nB
  have HJA := Lib.hid jA
  have HJB := Lib.hid jB
  have HI := Lib.hid (And.intro i1 (And.intro i2 i3))
  clear hA hB jA jB xA xB i1 i2 i3 nA nB eA eB
  obtain ⟨u, hu⟩ : ∃ u, wordV lp k1 = u := ⟨_, rfl⟩
  have HU := Lib.hid hu
  have HUI : Hid (InI u) := Lib.hid (by rw [← hu]; exact wordV_in HPI.out HI.out.1)
  clear hu
  obtain ⟨fr, hfr⟩ : ∃ fr, allV lp la = fr := ⟨_, rfl⟩
  have HFR := Lib.hid hfr
  have HFI : Hid (∀ x, x ∈ fr → InI x) := Lib.hid (by rw [← hfr]; exact allV_in HPI.out HJA.out)
  have HF20 : Hid (fr.length ≤ 20) := Lib.hid (by rw [← hfr]; exact allV_len _ _)
  clear hfr
  obtain ⟨tl, htl⟩ : ∃ tl, allV lp lb = tl := ⟨_, rfl⟩
  have HTL := Lib.hid htl
  clear htl
  obtain ⟨mm, er, hmk⟩ : ∃ mm er, turnV m fr tl = (mm, er) := ⟨_, _, rfl⟩
  have HM := Lib.hid hmk
  have HST : Hid (stepV m 5 k1 k2 k3 la lb = mm) := Lib.hid (by unfold stepV; rw [if_neg (by decide), if_neg (by decide), if_neg (by decide), if_neg (by decide), if_neg (by decide), if_neg (by decide), if_pos rfl]; rw [HLP.out, HFR.out, HTL.out, hmk])
  clear hmk
  rw [HST.out]
  go_enter Try.func12, Try.ntmps12
  go_wp2_with (first | (go_at_call 36; (with_reducible refine (HO.out).mono ?_); rintro e w1 ⟨A1, c1, rfl, hst⟩; have HS := Lib.hid hst; clear hst; have e0 : w1.cell? ⟨w.heap.size, 0, none⟩ = some (.int .i64 5) := (by simp [World.cell?, HS.out.box, ← HBX.out]); have e1 : w1.cell? ⟨w.heap.size, 1, none⟩ = some (.int .i64 k1) := (by simp [World.cell?, HS.out.box, ← HBX.out]); have e2 : w1.cell? ⟨w.heap.size, 2, none⟩ = some (.int .i64 k2) := (by simp [World.cell?, HS.out.box, ← HBX.out]); have e3 : w1.cell? ⟨w.heap.size, 3, none⟩ = some (.int .i64 k3) := (by simp [World.cell?, HS.out.box, ← HBX.out]); have e4 : w1.cell? ⟨w.heap.size, 4, none⟩ = some (.int .i64 k4) := (by simp [World.cell?, HS.out.box, ← HBX.out]); have e5 : w1.cell? ⟨w.heap.size, 5, none⟩ = some (.slice A nla ca) := (by simp [World.cell?, HS.out.box, ← HBX.out]); have e6 : w1.cell? ⟨w.heap.size, 6, none⟩ = some (.slice B nlb cb) := (by simp [World.cell?, HS.out.box, ← HBX.out]); skip) | (go_at_call 27; (with_reducible refine (word_any' HS.out.np HNP.out HL.out k1 HI.out.1).mono ?_); rw [HU.out]; rintro e w2 ⟨rfl, hw2⟩; replace hw2 := hw2.symm; subst hw2))
  go_region_held3 (fun w' => w'.cell? ⟨w.heap.size, 5, none⟩ = some (.slice A nla ca) ∧ w'.cell? ⟨w.heap.size, 6, none⟩ = some (.slice B nlb cb)) (first | assumption | (refine ⟨?_, ?_⟩ <;> first | assumption | (simp [go_sem, *]; done)) | (simp [go_sem]; done) | (simp [go_sem, *]; done)) (first | (go_at_call_of 34 (Value.slice A nla ca); (with_reducible refine (all_any' HS.out.drew.np HS.out.drew.nA HNP.out HLA.out HL.out HNA.out HJA.out).mono ?_); rw [HFR.out]; rintro e w2 ⟨v, rfl, hv, hb⟩; obtain ⟨A3, c3, rfl, hc3, hn3, hl3, hm3, hob3⟩ := hv.nums; have HVA := Lib.hid (And.intro hn3 (And.intro hc3 hm3)); replace HS := Lib.hid (HS.out.drew.below hb); clear hv hc3 hn3 hl3 hm3 hob3 hb; have g5 : w2.cell? ⟨w.heap.size, 5, none⟩ = some (.slice A nla ca) := (by simp [World.cell?, HS.out.box, ← HBX.out]); have g6 : w2.cell? ⟨w.heap.size, 6, none⟩ = some (.slice B nlb cb) := (by simp [World.cell?, HS.out.box, ← HBX.out]); skip) | (go_at_call_of 34 (Value.slice A nla ca); (with_reducible refine (all_any' HS.out.np HS.out.nA HNP.out HLA.out HL.out HNA.out HJA.out).mono ?_); rw [HFR.out]; rintro e w2 ⟨v, rfl, hv, hb⟩; obtain ⟨A3, c3, rfl, hc3, hn3, hl3, hm3, hob3⟩ := hv.nums; have HVA := Lib.hid (And.intro hn3 (And.intro hc3 hm3)); replace HS := Lib.hid (HS.out.below hb); clear hv hc3 hn3 hl3 hm3 hob3 hb; have g5 : w2.cell? ⟨w.heap.size, 5, none⟩ = some (.slice A nla ca) := (by simp [World.cell?, HS.out.box, ← HBX.out]); have g6 : w2.cell? ⟨w.heap.size, 6, none⟩ = some (.slice B nlb cb) := (by simp [World.cell?, HS.out.box, ← HBX.out]); skip) | (go_at_call_of 34 (Value.slice B nlb cb); (with_reducible refine (all_any' HS.out.np HS.out.nB HNP.out HLB.out HL.out HNB.out HJB.out).mono ?_); rw [HTL.out]; rintro e w2 ⟨v, rfl, hv, hb⟩; obtain ⟨A3, c3, rfl, hc3, hn3, hl3, hm3, hob3⟩ := hv.nums; have HVB := Lib.hid (And.intro hn3 (And.intro hc3 hm3)); replace HVA := Lib.hid (And.intro (HVA.out.1.below hb) HVA.out.2); replace HS := Lib.hid (HS.out.below hb); clear hv hc3 hn3 hl3 hm3 hob3 hb; have g5 : w2.cell? ⟨w.heap.size, 5, none⟩ = some (.slice A nla ca) := (by simp [World.cell?, HS.out.box, ← HBX.out]); have g6 : w2.cell? ⟨w.heap.size, 6, none⟩ = some (.slice B nlb cb) := (by simp [World.cell?, HS.out.box, ← HBX.out]); skip) | (go_at_call 30; (with_reducible refine (sp_turn HS.out HVA.out.1 HVB.out.1 HFI.out HVA.out.2.1 HVA.out.2.2 HVB.out.2.1 HVB.out.2.2).mono ?_); rw [HM.out]; rintro e w3 ⟨rfl, hst⟩; replace HS := Lib.hid hst; clear hst; have g5 : w3.cell? ⟨w.heap.size, 5, none⟩ = some (.slice A nla ca) := (by simp [World.cell?, HS.out.box, ← HBX.out]); have g6 : w3.cell? ⟨w.heap.size, 6, none⟩ = some (.slice B nlb cb) := (by simp [World.cell?, HS.out.box, ← HBX.out]); skip) | (go_at_call 46; (with_reducible refine (sr_turn HS.out HVA.out.1 HVB.out.1 HVA.out.2.1 (Nat.le_trans HF20.out (by decide))).mono ?_); rw [HM.out]; rintro e w3 ⟨rfl, hst⟩; replace HS := Lib.hid hst; clear hst; have g5 : w3.cell? ⟨w.heap.size, 5, none⟩ = some (.slice A nla ca) := (by simp [World.cell?, HS.out.box, ← HBX.out]); have g6 : w3.cell? ⟨w.heap.size, 6, none⟩ = some (.slice B nlb cb) := (by simp [World.cell?, HS.out.box, ← HBX.out]); skip))
  go_wp2
  go_ret
  exact ⟨ret_bool (by simp), HS.out.goal⟩
end Go.Proofs.Ytpifodfckjphiaa

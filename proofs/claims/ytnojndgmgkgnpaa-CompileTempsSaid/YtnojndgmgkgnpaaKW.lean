/- Chapter 10: how many names a node makes known. -/
import Derived.Test.YtnojndgmgkgnpaaCZ
import Derived.Test.YtnojndgmgkgnpaaCKn
import Derived.Deep.RegionLaw
namespace Go.Proofs.Ytnojndgmgkgnpaa
open Go.ChangeShapes Go.WideShapes Go.ChangeAt Go.RowKit Go.Deep Go.Joins Go.Maps
set_option linter.unusedVariables false
set_option linter.unusedSimpArgs false
theorem knNs_take : ∀ (l : List NodT) (k : Nat) (h : k < l.length), knNs (l.take (k + 1)) = knNs (l.take k) + knN l[k]
 | x :: l, 0, h => by simp [knNs]
 | x :: l, k + 1, h => by
  have h9 := knNs_take l k (by simpa using h)
  simp only [List.take_succ_cons, knNs, List.getElem_cons_succ]
  omega
theorem knNs_le : ∀ (l : List NodT) (k : Nat), knNs (l.take k) ≤ knNs l
 | [], k => by simp
 | x :: l, 0 => by simp [knNs]
 | x :: l, k + 1 => by
  have h9 := knNs_le l k
  simp only [List.take_succ_cons, knNs]
  omega
set_option maxRecDepth 100000 in
set_option maxHeartbeats 16000000 in
theorem known_any {w : World} {D : Nat → Prop} {x : NodT} {q : NS} (h : IsNd w D x q) : knN x ≤ 100000 → ∀ w1, Below w.heap.size w w1 → Calls Try.prog 12 #[ndV x q] w1 fun e w' => e = .returned (.int .i64 (knN x : Int)) ∧ Below w1.heap.size w1 w' := by
 induction h with
 | node x q Q h1 h2 h3 h4 h5 ih =>
 intro hkn w1 hb
 have HE : Hid (knN x = x.names.length + x.temps.length + knNs x.kids) := Lib.hid (knN_def x)
 have HL : Hid (∀ i (h : i < x.kids.length), knN x.kids[i] ≤ 100000) := Lib.hid (fun i h => by
  have a1 := knNs_take x.kids i h
  have a2 := knNs_le x.kids (i + 1)
  have := HE.out
  omega)
 have HLE : Hid (∀ k, x.names.length + x.temps.length + knNs (x.kids.take k) ≤ 100000) := Lib.hid (fun k => by
  have a2 := knNs_le x.kids k
  have := HE.out
  omega)
 have HTK : Hid (∀ k (h : k < x.kids.length), knNs (x.kids.take (k + 1)) = knNs (x.kids.take k) + knN x.kids[k]) := Lib.hid (fun k h => knNs_take _ _ h)
 have HTL : Hid (knNs (x.kids.take x.kids.length) = knNs x.kids) := Lib.hid (by rw [List.take_length])
 have HIH : Hid (∀ i (h : i < x.kids.length), ∀ w2, Below w1.heap.size w1 w2 → Calls Try.prog 12 #[ndV x.kids[i] (Q i)] w2 fun e w' => e = .returned (.int .i64 (knN x.kids[i] : Int)) ∧ Below w2.heap.size w2 w') := Lib.hid (fun i h w2 hb2 => ih i h (HL.out i h) w2 (hb.trans (hb2.mono hb.size)))
 have HK : Hid (∀ i (h : i < x.kids.length), ∃ b off, q.pk = some ⟨b, off, none⟩ ∧ b < w1.heap.size ∧ Cells6 w1 b (off + i * 6) x.kids[i] (Q i)) := Lib.hid (fun i hi => by
  obtain ⟨b, off, e, k1, k2, k3⟩ := h4 i hi
  exact ⟨b, off, e, Nat.lt_of_lt_of_le k1 hb.size, k3.same (hb.block b k1)⟩)
 have hkl := h1.klen
 have hm : maxLen = 140737488355328 ∨ maxLen ≤ 9223372036854775807 := by unfold maxLen; omega
 have hkm : x.kids.length ≤ 9223372036854775807 := by unfold maxLen at *; omega
 unfold ndV
 obtain ⟨nn, hnn⟩ : ∃ n, x.names.length = n := ⟨_, rfl⟩
 obtain ⟨nt, hnt⟩ : ∃ n, x.temps.length = n := ⟨_, rfl⟩
 obtain ⟨nk, hnk⟩ : ∃ n, x.kids.length = n := ⟨_, rfl⟩
 obtain ⟨xk, hxk⟩ : ∃ n, x.kind = n := ⟨_, rfl⟩
 obtain ⟨xt, hxt⟩ : ∃ n, x.text = n := ⟨_, rfl⟩
 obtain ⟨xn, hxn⟩ : ∃ n, x.num = n := ⟨_, rfl⟩
 have HNK := Lib.hid hnk
 obtain ⟨pk, hpk⟩ : ∃ p, q.pk = p := ⟨_, rfl⟩
 rw [hpk] at HK ⊢
 have h0 := HLE.out 0
 rw [hnn, hnt] at HE HLE h0
 rw [hnk] at HTL hkm
 rw [hnn, hnt, hnk, hxk, hxt, hxn]
 clear h1 h2 h3 h4 h5 ih hkl hm hnn hnt hnk hxk hxt hxn hb hkn HL hpk
 have hb0 : nn + nt ≤ 100000 := by omega
 go_enter Try.func12, Try.ntmps12
 go_upto_region 1 with fail
 have hbw : Below w1.heap.size w1 (w1.alloc (.cells #[.int .i64 xk, .string xt, .int .i64 xn, .slice q.pn nn q.cn, .slice q.pt nt q.ct, .slice pk nk q.ck] 25)) := bel
 have hbx := heap_alloc_new w1 (.cells #[.int .i64 xk, .string xt, .int .i64 xn, .slice q.pn nn q.cn, .slice q.pt nt q.ct, .slice pk nk q.ck] 25)
 obtain ⟨W, hW⟩ : ∃ W, w1.alloc (.cells #[.int .i64 xk, .string xt, .int .i64 xn, .slice q.pn nn q.cn, .slice q.pt nt q.ct, .slice pk nk q.ck] 25) = W := ⟨_, rfl⟩
 rw [hW] at hbw hbx ⊢
 obtain ⟨a0, a1, a2, a3, a4, a5⟩ := cc6 (hbx)
 have HBW := Lib.hid hbw
 have HBX := Lib.hid hbx
 clear hW hbw hbx
 go_wp2_with fail
 go_loopw [3, 4] (fun n i wr => ∃ k : Nat, i = .int .i64 k ∧ k ≤ nk ∧ n = .int .i64 ((nn + nt + knNs (x.kids.take k) : Nat) : Int) ∧ Below W.heap.size W wr) (fun _ i _ => nk - (intOf i).toNat)
 case atStart => exact ⟨0, rfl, Nat.zero_le _, by simp only [List.take_zero, knNs]; go_num, Below.refl _ _⟩
 case round =>
  obtain ⟨k, rfl, hk, rfl, hbr⟩ := hrel
  have HB := Lib.hid hbr
  have ha9 := (hbr.block _ (lt_of_block HBX.out)).trans HBX.out
  clear a0 a1 a2 a3 a4 a5
  obtain ⟨a0, a1, a2, a3, a4, a5⟩ := cc6 (ha9)
  obtain ⟨u, hu⟩ : ∃ u, nn + nt + knNs (x.kids.take k) = u := ⟨_, rfl⟩
  have hub := HLE.out k
  rw [hu] at hub ⊢
  have HU := Lib.hid hu
  clear ha9 hu
  by_cases hlt : k < nk
  ·have d1 : decide (k < nk) = true := decide_eq_true hlt
   have d2 : decide ((k : Int) < (nk : Int)) = true := decide_eq_true (by omega)
   have h1 : k < x.kids.length := by have := HNK.out; omega
   obtain ⟨b, off, hp, hlb, hc⟩ := HK.out k h1
   have hc2 := hc.same ((HBW.out.trans (hbr.mono HBW.out.size)).block b hlb)
   obtain ⟨y, hy⟩ : ∃ y, x.kids[k] = y := ⟨_, rfl⟩
   obtain ⟨qy, hqy⟩ : ∃ z, Q k = z := ⟨_, rfl⟩
   have hih := HIH.out k h1
   have htk := HTK.out k h1
   have hle := HLE.out (k + 1)
   rw [hy, hqy] at hc2 hih
   rw [hy] at htk
   obtain ⟨kn, hknn⟩ : ∃ n, knN y = n := ⟨_, rfl⟩
   rw [hknn] at hih htk
   have hub2 : u + kn ≤ 100000 := by have := HU.out; omega
   have HTK2 : Hid (nn + nt + knNs (x.kids.take (k + 1)) = u + kn) := Lib.hid (by have := HU.out; omega)
   subst hp
   obtain ⟨e0, e1, e2, e3, e4, e5⟩ := hc2
   have hW : ∀ W', Below wr.heap.size wr W' → Calls Try.prog 12 #[ndV y qy] W' fun e w' => e = .returned (.int .i64 (kn : Int)) ∧ Below wr.heap.size wr w' := fun W' hW => (hih W' (HBW.out.trans ((hbr.trans (hW.mono hbr.size)).mono HBW.out.size))).mono (fun e w' ⟨he, hb⟩ => ⟨he, hW.trans (hb.mono hW.size)⟩)
   unfold ndV at hW
   have HW := Lib.hid hW
   have g0 : (0 : Int) ≤ (k : Int) := by omega
   have g1 : (k : Int) < (nk : Int) := by omega
   have hbb : b < wr.heap.size := Nat.lt_of_lt_of_le hlb (HBW.out.trans (hbr.mono HBW.out.size)).size
   have hsum : IntKind.i64.wrap ((u : Int) + (kn : Int)) = (u : Int) + (kn : Int) := IntWalk.i64_in _ (by omega)
   clear hW hih htk hle hknn hy hqy hc hub
   go_wp2_with (first | (go_at_call 12; (with_reducible refine (HW.out _ bel).mono ?_); rintro e w3 ⟨rfl, hb3⟩; have HB3 := Lib.hid hb3; clear hb3))
   go_roundw
   case rel =>
    refine ⟨k + 1, by go_num, hlt, ?_, HB.out.trans (HB3.out.mono HB.out.size)⟩
    rw [HTK2.out]
    go_num
   case measure => simp [intOf]; omega
  ·have hkn : k = nk := by omega
   have d1 : decide (k < nk) = false := decide_eq_false hlt
   have d2 : decide ((k : Int) < (nk : Int)) = false := decide_eq_false (by omega)
   have HUE : Hid (knN x = u) := Lib.hid (by have h1 := HE.out; have h2 := HTL.out; have h3 := HU.out; rw [hkn] at h3; omega)
   clear hlt
   subst hkn
   go_wp2_with fail
   go_ret
   exact ⟨by rw [HUE.out]; rfl, HBW.out.trans (HB.out.mono HBW.out.size)⟩
end Go.Proofs.Ytnojndgmgkgnpaa

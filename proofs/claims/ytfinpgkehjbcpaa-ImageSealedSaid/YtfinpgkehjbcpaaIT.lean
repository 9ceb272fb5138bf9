/- Chapter 05: the law's like. -/
import Derived.Test.YtfinpgkehjbcpaaLW3
import Derived.Deep.RegionLaw
import Derived.BigQuiet
namespace Go.Proofs.Ytfinpgkehjbcpaa
open Go.ChangeShapes Go.WideShapes Go.ChangeAt Go.RowKit Go.Deep Go.Joins Go.Maps
set_option linter.unusedVariables false
set_option linter.unusedSimpArgs false
theorem inI_of {x : Int} (h1 : -9223372036854775808 ≤ x) (h2 : x ≤ 9223372036854775807) : InI x := ⟨h1, h2⟩
theorem objQ {w : World} {s bw bm : Nat} {m : Hp} (h : PM w s bw bm m) {n : Nat} (hn : m.L.length = n) : Calls Try.prog 36 #[.pointer (some ⟨s, 0, none⟩)] w fun e w' => ∃ A c, e = .returned (.slice A n c) ∧ Nums w' A (ptrs m.L) ∧ Below w.heap.size w w' := by
  refine (objects_any h).mono ?_
  rintro e w' ⟨v, rfl, hv, hb⟩
  obtain ⟨A1, c1, rfl, hc1, hn1, hl1, hm1, hob1⟩ := hv.nums
  have hl : (ptrs m.L).length = n := by rw [← hn]; simp [ptrs]
  rw [hl]
  exact ⟨A1, c1, rfl, hn1, hb⟩
theorem robjL {w : World} {R : Nat → Prop} {r : Nat} {m : Hp} {lv : Value} {fv : Nat → Value} (h : RM w R r m lv fv) {L : List Ob} (hL : m.L = L) {n : Nat} (hn : L.length = n) : Calls Try.prog 12 #[.pointer (some ⟨r, 0, none⟩)] w fun e w' => ∃ A c, e = .returned (.slice A n c) ∧ Nums w' A (ptrs L) ∧ Below w.heap.size w w' := by
  subst hL
  refine (robjects_any h).mono ?_
  rintro e w' ⟨v, rfl, hv, hb⟩
  obtain ⟨A1, c1, rfl, hc1, hn1, hl1, hm1, hob1⟩ := hv.nums
  have hl : (ptrs m.L).length = n := by rw [← hn]; simp [ptrs]
  rw [hl]
  exact ⟨A1, c1, rfl, hn1, hb⟩
theorem sameN {w : World} {A B : Option Addr} {l : List Int} {n c d : Nat} (hA : Nums w A l) (hB : Nums w B l) (hl : l.length = n) (hn : l.length ≤ maxLen) :
    Calls Try.prog 19 #[.slice A n c, .slice B n d] w fun e w' => e = .returned (.bool true) ∧ Below w.heap.size w w' := by subst hl; exact same_any hA hB hn
theorem ptr_word {m : Hp} {k : Nat} (hk : k < m.L.length) : (ptrs m.L)[k]'(by simpa [ptrs] using hk) = ptr m.L k := by simp [ptrs]
theorem getV_at {m : Hp} {k q : Nat} (hk : k < m.L.length) (hq : q < m.L[k].F.length) : getV m.L (ptr m.L k) (q : Int) = (m.L[k].F.getD q 0, 0) := by
  have hp := plc_at hk
  have hl : lookO m.L (ptr m.L k) = m.L[k] := by unfold lookO; rw [hp]; simp [List.getD_eq_getElem?_getD, List.getElem?_eq_getElem hk]
  have hi : isV m.L (ptr m.L k) = true := by unfold isV; rw [hp]; rfl
  unfold getV
  rw [hi, if_pos rfl, if_neg (by rw [hl]; omega), Int.toNat_natCast, hl]
theorem look_at {m : Hp} {k : Nat} (hk : k < m.L.length) : lookO m.L (ptr m.L k) = m.L[k] := by
  unfold lookO; rw [plc_at hk]; simp [List.getD_eq_getElem?_getD, List.getElem?_eq_getElem hk]
set_option maxRecDepth 100000 in
set_option maxHeartbeats 16000000 in
theorem like_any {w : World} {s bw bm r : Nat} {R : Nat → Prop} {m m2 : Hp} {lv : Value} {fv : Nat → Value} (hp : PM w s bw bm m) (hq : RM w R r m2 lv fv) (hL2 : m2.L = m.L) (hM2 : m2.made = m.made) (size : Int) (hsz : size = (m.size : Int)) : Calls Try.prog 20 #[.pointer (some ⟨s, 0, none⟩), .pointer (some ⟨r, 0, none⟩), .int .i64 size] w fun e w' => e = .returned (.bool true) ∧ Below w.heap.size w w' := by
  subst hsz
  have HL2 := Lib.hid hL2
  have HM2 := Lib.hid hM2
  have HP := Lib.hid hp
  have HQ := Lib.hid hq
  have HLL : Hid (m.L.length ≤ 131072) := Lib.hid (len_bd hp.good)
  have HLN : Hid ((ptrs m.L).length ≤ 1000000) := Lib.hid (by have := HLL.out; simp [ptrs]; omega)
  obtain ⟨n, hn⟩ : ∃ n, m.L.length = n := ⟨_, rfl⟩
  have HNL := Lib.hid hn
  have HPL : Hid ((ptrs m.L).length = n) := Lib.hid (by rw [← hn]; simp [ptrs])
  clear hp hq hn hL2 hM2
  go_enter Try.func20, Try.ntmps20
  go_wp2_with (first | (go_at_call 36; (with_reducible refine (objQ HP.out HNL.out).mono ?_); rintro e w1 ⟨A1, c1, rfl, hn1, hb1⟩; have HN1 := Lib.hid hn1; have HB1 := Lib.hid hb1; clear hn1 hb1) | (go_at_call 12; (with_reducible refine (robjL (HQ.out.below HB1.out) HL2.out HNL.out).mono ?_); rintro e w2 ⟨A2, c2, rfl, hn2, hb2⟩; have HN2 := Lib.hid hn2; have HB2 := Lib.hid hb2; clear hn2 hb2) | (go_at_call 19; (with_reducible refine (sameN (HN1.out.below HB2.out) HN2.out HPL.out (Nat.le_trans HLN.out (by decide))).mono ?_); rintro e w3 ⟨rfl, hb3⟩; have HB3 := Lib.hid hb3; clear hb3))
  have hB3 : Below w.heap.size w w3 := (HB1.out.trans (HB2.out.mono HB1.out.size)).trans (HB3.out.mono (Nat.le_trans HB1.out.size HB2.out.size))
  have HBB := Lib.hid hB3
  have HP3 := Lib.hid (HP.out.below hB3)
  have HQ3 := Lib.hid (HQ.out.below hB3)
  have HN3 := Lib.hid ((HN1.out.below HB2.out).below HB3.out)
  clear HP HQ HB1 HB2 HB3 HN1 HN2 hB3
  have q0 := HQ3.out.c0
  have q1 := HQ3.out.c1
  rw [HM2.out] at q1
  have HSZ : Hid ((m.size : Int) ≤ 1000000) := Lib.hid (by have := HP3.out.good.hi; omega)
  have HMA : Hid (∀ d, Calls Try.prog 38 #[.pointer (some ⟨s, 0, none⟩)] (w3.drewN d) fun e w' => e = .returned (.int .i64 (m.made : Int)) ∧ w' = (w3.drewN d)) := Lib.hid (fun d => made_any (HP3.out.drewN d))
  have HSI : Hid (∀ d, Calls Try.prog 55 #[.pointer (some ⟨s, 0, none⟩)] (w3.drewN d) fun e w' => e = .returned (.int .i64 (m.size : Int)) ∧ w' = (w3.drewN d)) := Lib.hid (fun d => size_any (HP3.out.drewN d))
  go_quiet (first | (go_at_call 38; exact Calls.quiet_of_same (HMA.out _)) | (go_at_call 55; exact Calls.quiet_of_same (HSI.out _)))
  go_wp2_with fail
  have hnb : n ≤ 131072 := by rw [← HNL.out]; exact HLL.out
  clear HMA HSI q0 q1
  go_loopw [9] (fun i wr => ∃ k : Nat, k ≤ n ∧ i = .int .i64 k ∧ Below w3.heap.size w3 wr) (fun i _ => n - (intOf i).toNat)
  case atStart => exact ⟨0, Nat.zero_le _, rfl, by (repeat' (first | (with_reducible exact Below.refl _ _) | (with_reducible assumption) | (with_reducible refine below_drewN ?_ _) | (with_reducible refine Below.alloc ?_ ?_ _) | (with_reducible refine Below.drew ?_) | (with_reducible refine Below.setCell ?_ ?_ _) | go_size))⟩
  case round =>
    obtain ⟨k, hk, rfl, hb⟩ := hrel
    have HBW := Lib.hid hb
    by_cases hlt : k < n
    · have hlt' : decide (k < n) = true := decide_eq_true hlt
      have hkl : k < m.L.length := by rw [HNL.out]; exact hlt
      have HQW := Lib.hid (HQ3.out.below hb)
      have c2 := HQW.out.c2
      have hlist := HQW.out.list
      rw [HL2.out] at hlist
      obtain ⟨LA, lc, hlv, hlc, hobj⟩ := hlist
      obtain ⟨g, rfl, e0, e1, e2, e3⟩ := hobj k hkl
      rw [hlv, HNL.out] at c2
      rw [HNL.out] at hlc
      have hfld := HQW.out.field (i := k) (by rw [HL2.out]; exact hkl)
      simp only [HL2.out] at hfld
      obtain ⟨FA, fc, hfv, hfc, hfj⟩ := hfld
      obtain ⟨nf, hnf⟩ : ∃ nf, m.L[k].F.length = nf := ⟨_, rfl⟩
      have hfl := HP3.out.good.len _ (List.getElem_mem hkl)
      obtain ⟨x0, hx0⟩ : ∃ x, m.L[k].cls = x := ⟨_, rfl⟩
      obtain ⟨x1, hx1⟩ : ∃ x, m.L[k].fmt = x := ⟨_, rfl⟩
      obtain ⟨x2, hx2⟩ : ∃ x, m.L[k].hash = x := ⟨_, rfl⟩
      rw [hx0] at e0
      rw [hx1] at e1
      rw [hx2] at e2
      rw [hfv, hnf] at e3
      rw [hnf] at hfc hfl
      have HFJ := Lib.hid hfj
      have HKL := Lib.hid hkl
      have HNF := Lib.hid hnf
      have HX0 := Lib.hid hx0
      have HX1 := Lib.hid hx1
      have HX2 := Lib.hid hx2
      have g0 : (0 : Int) ≤ (k : Int) := by omega
      have g1 : (k : Int) < (n : Int) := by omega
      obtain ⟨ag, aoff, rfl, hal, ha⟩ := HN3.out.below hb k (by rw [HPL.out]; exact hlt)
      rw [ptr_word hkl] at ha
      obtain ⟨p, hpp⟩ : ∃ p, ptr m.L k = p := ⟨_, rfl⟩
      have HPP := Lib.hid hpp
      rw [hpp] at ha
      have HAC := Lib.hid ha
      clear hb hobj hlv hfv hfj hnf hx0 hx1 hx2 hpp ha hal
      go_upto_region 9 with fail
      obtain ⟨wx, hwx⟩ : ∃ wx, wr.alloc (.cells #[.int .i64 x0, .int .i64 x1, .int .i64 x2, .slice FA nf fc] 75) = wx := ⟨_, rfl⟩
      rw [hwx]
      have hbx : Below wr.heap.size wr wx := by rw [← hwx]; exact (Below.refl _ _).alloc (Nat.le_refl _) _
      have hhx : wx.heap[wr.heap.size]? = some (.cells #[.int .i64 x0, .int .i64 x1, .int .i64 x2, .slice FA nf fc] 75 (0, 0)) := by rw [← hwx]; exact (MapKept.heap_alloc wr _).1
      obtain ⟨bb, hbb⟩ : ∃ bb, wr.heap.size = bb := ⟨_, rfl⟩
      rw [hbb] at hhx ⊢
      have HWX := Lib.hid hbx
      have b0 : wx.cell? ⟨bb, 0, none⟩ = some (.int .i64 x0) := by simp [World.cell?, hhx]
      have b1 : wx.cell? ⟨bb, 1, none⟩ = some (.int .i64 x1) := by simp [World.cell?, hhx]
      have b2 : wx.cell? ⟨bb, 2, none⟩ = some (.int .i64 x2) := by simp [World.cell?, hhx]
      have b3 : wx.cell? ⟨bb, 3, none⟩ = some (.slice FA nf fc) := by simp [World.cell?, hhx]
      have ha := (hbx.cell (cell_lt HAC.out)).trans HAC.out
      have HB4 : Hid (Below w3.heap.size w3 wx) := Lib.hid (HBW.out.trans (hbx.mono HBW.out.size))
      have HP4 := Lib.hid (HP3.out.below HB4.out)
      have HQ4 := Lib.hid (HQW.out.below hbx)
      clear hhx hbx hwx hbb c2 e0 e1 e2 e3
      have HCL : Hid (∀ d, Calls Try.prog 56 #[.pointer (some ⟨s, 0, none⟩), .int .i64 p] (wx.drewN d) fun e w' => e = .returned (.int .i64 x0) ∧ ∃ n, w' = (wx.drewN d).drewN n) := Lib.hid (fun d => by rw [show x0 = (lookO m.L p).cls by rw [← HPP.out, look_at HKL.out, HX0.out]]; exact class_any (HP4.out.drewN d) p)
      have HFO : Hid (∀ d, Calls Try.prog 57 #[.pointer (some ⟨s, 0, none⟩), .int .i64 p] (wx.drewN d) fun e w' => e = .returned (.int .i64 x1) ∧ ∃ n, w' = (wx.drewN d).drewN n) := Lib.hid (fun d => by rw [show x1 = (lookO m.L p).fmt by rw [← HPP.out, look_at HKL.out, HX1.out]]; exact format_any (HP4.out.drewN d) p)
      have HHA : Hid (∀ d, Calls Try.prog 58 #[.pointer (some ⟨s, 0, none⟩), .int .i64 p] (wx.drewN d) fun e w' => e = .returned (.int .i64 x2) ∧ ∃ n, w' = (wx.drewN d).drewN n) := Lib.hid (fun d => by rw [show x2 = (lookO m.L p).hash by rw [← HPP.out, look_at HKL.out, HX2.out]]; exact hash_any (HP4.out.drewN d) p)
      have HFI : Hid (∀ d, Calls Try.prog 59 #[.pointer (some ⟨s, 0, none⟩), .int .i64 p] (wx.drewN d) fun e w' => e = .returned (.int .i64 (nf : Int)) ∧ ∃ n, w' = (wx.drewN d).drewN n) := Lib.hid (fun d => by rw [show (nf : Int) = ((lookO m.L p).F.length : Int) by rw [← HPP.out, look_at HKL.out, HNF.out]]; exact fields_any (HP4.out.drewN d) p)
      go_quiet (first | (go_at_call 56; exact Calls.quiet_of (HCL.out _)) | (go_at_call 57; exact Calls.quiet_of (HFO.out _)) | (go_at_call 58; exact Calls.quiet_of (HHA.out _)) | (go_at_call 59; exact Calls.quiet_of (HFI.out _)))
      go_wp2_with fail
      clear HCL HFO HHA HFI
      go_loopw [11] (fun j wv => ∃ q : Nat, q ≤ nf ∧ j = .int .i64 q ∧ Below wx.heap.size wx wv) (fun j _ => nf - (intOf j).toNat)
      case atStart => exact ⟨0, Nat.zero_le _, rfl, by (repeat' (first | (with_reducible exact Below.refl _ _) | (with_reducible assumption) | (with_reducible refine below_drewN ?_ _) | (with_reducible refine Below.alloc ?_ ?_ _) | (with_reducible refine Below.drew ?_) | (with_reducible refine Below.setCell ?_ ?_ _) | go_size))⟩
      case round =>
        obtain ⟨q, hq, rfl, hbv⟩ := hrel
        have HBV := Lib.hid hbv
        have b3' := (hbv.cell (cell_lt b3)).trans b3
        have ha' := (hbv.cell (cell_lt ha)).trans ha
        by_cases hqt : q < nf
        · have hqt' : decide (q < nf) = true := decide_eq_true hqt
          obtain ⟨gf, rfl, hgc, _⟩ := HFJ.out q (by rw [HNF.out]; exact hqt)
          obtain ⟨x, hx⟩ : ∃ x, (m.L[k]'hkl).F.getD q 0 = x := ⟨_, rfl⟩
          have HG : Hid (getV m.L p (q : Int) = (x, 0)) := Lib.hid (by rw [← HPP.out, getV_at HKL.out (by rw [HNF.out]; exact hqt), hx])
          rw [hx] at hgc
          have hg1 := (HWX.out.cell (cell_lt hgc)).trans hgc
          have hgx := (hbv.cell (cell_lt hg1)).trans hg1
          have j0 : (0 : Int) ≤ (q : Int) := by omega
          have j1 : (q : Int) < (nf : Int) := by omega
          have HQI : Hid (InI (q : Int)) := Lib.hid (inI_of (by omega) (by omega))
          clear hx hbv hgc hg1
          go_wp2_with (go_at_call 60; (with_reducible refine (get_any (HP4.out.below HBV.out) p (q : Int) HQI.out).mono ?_); rw [HG.out]; rintro e w5 ⟨rfl, n5, hw5⟩; have HW5 := Lib.hid hw5; have b3'' : w5.cell? ⟨bb, 3, none⟩ = some (.slice (some ⟨gf, 0, none⟩) nf fc) := (by rw [hw5]; exact b3'); have hgx' : w5.cell? ⟨gf, q, none⟩ = some (.int .i64 x) := (by rw [hw5]; exact hgx); clear hw5)
          go_roundw
          case rel => exact ⟨q + 1, by omega, by go_num, by rw [HW5.out]; exact below_drewN HBV.out _⟩
          case measure => simp [intOf]; omega
        · have hqn : q = nf := by omega
          have hqt' : decide (q < nf) = false := decide_eq_false hqt
          clear hbv hqt
          subst hqn
          go_wp2_with fail
          go_roundw
          case rel => exact ⟨k + 1, by omega, by go_num, HB4.out.trans (HBV.out.mono HB4.out.size)⟩
          case measure => simp [intOf]; omega
    · have hkn : k = n := by omega
      have hlt' : decide (k < n) = false := decide_eq_false hlt
      clear hb
      go_wp2
      go_ret
      exact ⟨rfl, HBB.out.trans (HBW.out.mono HBB.out.size)⟩
end Go.Proofs.Ytfinpgkehjbcpaa

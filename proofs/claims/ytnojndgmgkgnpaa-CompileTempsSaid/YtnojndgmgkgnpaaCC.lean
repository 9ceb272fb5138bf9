/- Chapter 10: what is known by a name. -/
import Derived.Test.YtnojndgmgkgnpaaCB
namespace Go.Proofs.Ytnojndgmgkgnpaa
open Go.ChangeShapes Go.WideShapes Go.ChangeAt Go.RowKit Go.Deep Go.Joins Go.Maps
set_option linter.unusedVariables false
set_option linter.unusedSimpArgs false
def kV (k : Nm) : Value := .agg #[.string k.name, .bool (decide (k.kind = 1)), .bool (decide (k.kind = 3)), .int .i64 k.at_]
def idxV : Option Nat → Int
 | none => -1
 | some i => (i : Int)
def fndV : Option Nm → Value
 | some k => .tuple #[kV k, .bool true]
 | none => .tuple #[.agg #[.string eB, .bool false, .bool false, .int .i64 0], .bool false]
theorem findIdx_some {α : Type} {p : α → Bool} {l : List α} {k : Nat} (hk : k < l.length) (h : (l.take k).any p = false) (hp : p l[k] = true) : l.findIdx? p = some k := by
 rw [List.findIdx?_eq_some_iff_getElem]
 refine ⟨hk, hp, fun j hj => ?_⟩
 rw [List.any_eq_false] at h
 have hm : l[j]'(by omega) ∈ l.take k := by
  rw [List.mem_take_iff_getElem]
  exact ⟨j, by omega, rfl⟩
 simpa using h _ hm
theorem findIdx_none {α : Type} {p : α → Bool} {l : List α} (h : l.any p = false) : l.findIdx? p = none := by
 rw [List.findIdx?_eq_none_iff]
 intro x hx
 rw [List.any_eq_false] at h
 simpa using h x hx
theorem any_take_succ {α : Type} {l : List α} {p : α → Bool} {k : Nat} (hk : k < l.length) (h : p l[k] = false) (ha : (l.take k).any p = false) : (l.take (k + 1)).any p = false := by
 rw [List.take_succ_eq_append_getElem hk, List.any_append, ha]; simp [h]
def sameN (t : ByteArray) (k : Nm) : Bool := k.name.toList == t.toList
theorem find_idx (l : List Nm) (t : ByteArray) : findN l t = (l.findIdx? (sameN t)).bind (fun i => l[i]?) := by
 unfold findN
 show l.find? (sameN t) = _
 cases h : l.findIdx? (sameN t) with
 | none =>
  rw [List.findIdx?_eq_none_iff] at h
  rw [List.find?_eq_none.2 (fun x hx => by simpa using h x hx)]
  rfl
 | some i =>
  rw [List.findIdx?_eq_some_iff_getElem] at h
  obtain ⟨hi, hp, hj⟩ := h
  show _ = l[i]?
  rw [List.getElem?_eq_getElem hi]
  rw [List.find?_eq_some_iff_getElem]
  exact ⟨hp, i, hi, rfl, fun j hj' => by simpa using hj j hj'⟩
set_option maxRecDepth 100000 in
set_option maxHeartbeats 16000000 in
theorem fclo_any {w : World} {fb : Nat} {t : ByteArray} (hfb : w.cell? ⟨fb, 0, none⟩ = some (.string t)) (k : Nm) : Calls Try.prog 65 #[kV k, .pointer (some ⟨fb, 0, none⟩)] w fun e w' => e = .returned (.bool (sameN t k)) ∧ Below w.heap.size w w' := by
 obtain ⟨b, hb⟩ : ∃ b, (k.name.toList == t.toList) = b := ⟨_, rfl⟩
 have HB : Hid (sameN t k = b) := Lib.hid hb
 obtain ⟨kn, kk, ka⟩ := k
 unfold kV
 simp only at hb ⊢
 have hfl := cell_lt hfb
 go_enter Try.func65, Try.ntmps65
 go_wp2_with fail
 go_ret
 exact ⟨ret_bool (by rw [HB.out, ← hb]), bel⟩
set_option maxRecDepth 100000 in
set_option maxHeartbeats 16000000 in
theorem index_known {w : World} {W : Nat → Prop} {A : Option Addr} {n c : Nat} {l : List Nm} (hN : NmRow w W (.slice A n c) l) (hn : l.length = n) (hle : n ≤ 100000) {fb : Nat} {t : ByteArray} (hfb : w.cell? ⟨fb, 0, none⟩ = some (.string t)) : Calls Try.prog 64 #[.slice A n c, .func (.func 65) #[] #[.pointer (some ⟨fb, 0, none⟩)]] w fun e w' => e = .returned (.int .i64 (idxV (l.findIdx? (sameN t)))) ∧ Below w.heap.size w w' := by
 have HN := Lib.hid hN
 have HL := Lib.hid hn
 have HF := Lib.hid hfb
 clear hN hn hfb
 go_enter Try.func64, Try.ntmps64
 go_wp2_with fail
 go_loopw [8] (fun i wr => ∃ k : Nat, k ≤ n ∧ i = .int .i64 k ∧ (l.take k).any (sameN t) = false ∧ Below w.heap.size w wr) (fun i _ => n - (intOf i).toNat)
 case atStart => exact ⟨0, Nat.zero_le _, rfl, rfl, Below.refl _ _⟩
 case round =>
  obtain ⟨k, hk, rfl, hall, hbw⟩ := hrel
  have HALL := Lib.hid hall
  have HBW := Lib.hid hbw
  have hws := hbw.size
  clear hall
  by_cases hlt : k < n
  ·have d1 : decide (k < n) = true := decide_eq_true hlt
   have hkl : k < l.length := by rw [HL.out]; exact hlt
   obtain ⟨b, c', hv, hbl, c0, c1, c2, c3⟩ := HN.out.at_ hkl
   simp only [Value.slice.injEq] at hv
   obtain ⟨rfl, hx9, rfl⟩ := hv
   clear hx9
   have hc := fun j => (hbw.cell (p := ⟨b, j, none⟩) hbl)
   replace c0 := (hc _).trans c0
   replace c1 := (hc _).trans c1
   replace c2 := (hc _).trans c2
   replace c3 := (hc _).trans c3
   have hft : wr.cell? ⟨fb, 0, none⟩ = some (.string t) := (hbw.cell (p := ⟨fb, 0, none⟩) (cell_lt HF.out)).trans HF.out
   have HFT := Lib.hid hft
   obtain ⟨kx, hkx⟩ : ∃ kx, l[k] = kx := ⟨_, rfl⟩
   have HKX := Lib.hid hkx
   rw [hkx] at c0 c1 c2 c3
   have hcl := fclo_any hft kx
   unfold kV at hcl
   obtain ⟨kn, kk, ka⟩ := kx
   simp only at c0 c1 c2 c3 hcl
   have g0 : (0 : Int) ≤ (k : Int) := by omega
   have g1 : (k : Int) < (n : Int) := by omega
   clear hkx hc hft hbw
   obtain ⟨v, hv⟩ : ∃ v, sameN t ⟨kn, kk, ka⟩ = v := ⟨_, rfl⟩
   rw [hv] at hcl
   have HV := Lib.hid hv
   have HCL := Lib.hid hcl
   clear hv hcl
   cases v
   ·go_wp2_with (go_at_call 65; (with_reducible refine HCL.out.mono ?_); rintro e w1 ⟨rfl, hb1⟩; have HB1 := Lib.hid hb1; clear hb1)
    go_roundw
    case rel => exact ⟨k + 1, by omega, by go_num, any_take_succ hkl (by rw [HKX.out]; exact HV.out) HALL.out, HBW.out.trans (HB1.out.mono HBW.out.size)⟩
    case measure => simp [intOf]; omega
   ·go_wp2_with (go_at_call 65; (with_reducible refine HCL.out.mono ?_); rintro e w1 ⟨rfl, hb1⟩; have HB1 := Lib.hid hb1; clear hb1)
    go_ret
    exact ⟨by rw [findIdx_some hkl HALL.out (by rw [HKX.out]; exact HV.out)]; rfl, HBW.out.trans (HB1.out.mono HBW.out.size)⟩
  ·have hkn : k = n := by omega
   have d1 : decide (k < n) = false := decide_eq_false hlt
   clear hlt
   subst hkn
   go_wp2_with fail
   go_ret
   refine ⟨?_, HBW.out⟩
   have h9 := HALL.out
   rw [← HL.out, List.take_length] at h9
   rw [findIdx_none h9]
   rfl
theorem agg_set {w : World} {b : Nat} {a0 a1 a2 a3 x0 x1 x2 x3 : Value} {T : TypeId} (h : w.heap[b]? = some (.cells #[a0, a1, a2, a3] T (0, 0))) : ((((w.setCell ⟨b, 0, none⟩ x0).setCell ⟨b, 1, none⟩ x1).setCell ⟨b, 2, none⟩ x2).setCell ⟨b, 3, none⟩ x3).heap[b]? = some (.cells #[x0, x1, x2, x3] T (0, 0)) := by
 have h0 : (w.setCell ⟨b, 0, none⟩ x0).heap[b]? = some (.cells #[x0, a1, a2, a3] T (0, 0)) := by rw [heap_setCell_same _ b 0 _ _ _ h]; rfl
 have h1 : ((w.setCell ⟨b, 0, none⟩ x0).setCell ⟨b, 1, none⟩ x1).heap[b]? = some (.cells #[x0, x1, a2, a3] T (0, 0)) := by rw [heap_setCell_same _ b 1 _ _ _ h0]; rfl
 have h2 : (((w.setCell ⟨b, 0, none⟩ x0).setCell ⟨b, 1, none⟩ x1).setCell ⟨b, 2, none⟩ x2).heap[b]? = some (.cells #[x0, x1, x2, a3] T (0, 0)) := by rw [heap_setCell_same _ b 2 _ _ _ h1]; rfl
 rw [heap_setCell_same _ b 3 _ _ _ h2]; rfl
theorem setCells4_below {B : Nat} {w w1 : World} {b : Nat} {x0 x1 x2 x3 : Value} (h : Below B w w1) (hb : B ≤ b) : Below B w ((((w1.setCell ⟨b, 0, none⟩ x0).setCell ⟨b, 1, none⟩ x1).setCell ⟨b, 2, none⟩ x2).setCell ⟨b, 3, none⟩ x3) :=
 (((h.setCell hb _).setCell hb _).setCell hb _).setCell hb _
set_option maxRecDepth 100000 in
set_option maxHeartbeats 16000000 in
theorem find_any {w0 w : World} {P : Nat → Prop} {cb : Nat} {m : MK} {s : CSt} (h : CX w0 P w cb m s) (t : ByteArray) (ht : t.size ≤ big63) : Calls Try.prog 52 #[.pointer (some ⟨cb, 0, none⟩), .string t] w fun e w' => e = .returned (fndV (findN s.names t)) ∧ Below w.heap.size w w' := by
 obtain ⟨lv, cv, nv, D, ps, hy, hfew⟩ := h
 obtain ⟨A, c, hnv, hle⟩ := hy.names.slice
 subst hnv
 obtain ⟨n, hn⟩ : ∃ n, s.names.length = n := ⟨_, rfl⟩
 have HN := Lib.hid hn
 have k6 : w.cell? ⟨cb, 6, none⟩ = some (.slice A n c) := by rw [hy.cell, ← hn]; rfl
 have hnr := hy.names
 rw [hn] at hnr hfew
 have HNR := Lib.hid hnr
 have hcbl := lt_of_block hy.box
 have hn2 : n ≤ 100000 := by omega
 clear hnr hfew hle
 obtain ⟨o, ho⟩ : ∃ o, s.names.findIdx? (sameN t) = o := ⟨_, rfl⟩
 have hfi := find_idx s.names t
 rw [ho] at hfi
 have HFI := Lib.hid hfi
 have HO := Lib.hid ho
 have HW : Hid (Below w.heap.size w ((w.alloc (.cells #[.string t] 9)).alloc (.cells #[.string eB, .bool false, .bool false, .int .i64 0] 75))) := Lib.hid bel
 have HF0 : Hid (((w.alloc (.cells #[.string t] 9)).alloc (.cells #[.string eB, .bool false, .bool false, .int .i64 0] 75)).cell? ⟨w.heap.size, 0, none⟩ = some (.string t)) := Lib.hid (by simp [go_sem])
 clear hy hn hfi ho
 have HT0 : Hid (((w.alloc (.cells #[.string t] 9)).alloc (.cells #[.string eB, .bool false, .bool false, .int .i64 0] 75)).heap[w.heap.size + 1]? = some (.cells #[.string eB, .bool false, .bool false, .int .i64 0] 75 (0, 0))) := Lib.hid (by
  have := heap_alloc_new (w.alloc (.cells #[.string t] 9)) (.cells #[.string eB, .bool false, .bool false, .int .i64 0] 75)
  rw [World.size_alloc] at this; exact this)
 cases o with
 | none =>
  have HR : Hid (fndV (findN s.names t) = fndV none) := Lib.hid (by rw [HFI.out]; rfl)
  go_enter Try.func52, Try.ntmps52
  go_wp2_with (go_at_call 64; (with_reducible refine (index_known (HNR.out.same HW.out.size (fun k hk => HW.out.block k (HNR.out.lt hk)) (fun _ _ z => z)) HN.out (by omega) HF0.out).mono ?_); rw [HO.out]; rintro e w1 ⟨rfl, hb1⟩; unfold idxV; have hT := (hb1.block (w.heap.size + 1) (by simp)).trans HT0.out; have q0 : w1.cell? ⟨w.heap.size + 1, 0, none⟩ = some (.string eB) := (by simp [World.cell?, hT]); have q1 : w1.cell? ⟨w.heap.size + 1, 1, none⟩ = some (.bool false) := (by simp [World.cell?, hT]); have q2 : w1.cell? ⟨w.heap.size + 1, 2, none⟩ = some (.bool false) := (by simp [World.cell?, hT]); have q3 : w1.cell? ⟨w.heap.size + 1, 3, none⟩ = some (.int .i64 0) := (by simp [World.cell?, hT]); have r0 : w1.frozen? ⟨w.heap.size + 1, 0, none⟩ = false := (by simp [World.frozen?, hT]); have r1 : w1.frozen? ⟨w.heap.size + 1, 1, none⟩ = false := (by simp [World.frozen?, hT]); have r2 : w1.frozen? ⟨w.heap.size + 1, 2, none⟩ = false := (by simp [World.frozen?, hT]); have r3 : w1.frozen? ⟨w.heap.size + 1, 3, none⟩ = false := (by simp [World.frozen?, hT]); have HB1 := Lib.hid (HW.out.trans (hb1.mono HW.out.size)); have HT1 := Lib.hid hT; have k6' : w1.cell? ⟨cb, 6, none⟩ = some (.slice A n c) := (HB1.out.cell (p := ⟨cb, 6, none⟩) hcbl).trans k6; clear hb1 hT)
  obtain ⟨W9, hW9⟩ : ∃ W9, W9 = ((((w1.setCell ⟨w.heap.size + 1, 0, none⟩ (.string eB)).setCell ⟨w.heap.size + 1, 1, none⟩ (.bool false)).setCell ⟨w.heap.size + 1, 2, none⟩ (.bool false)).setCell ⟨w.heap.size + 1, 3, none⟩ (.int .i64 0)) := ⟨_, rfl⟩
  have h9 : W9.heap[w.heap.size + 1]? = some (.cells #[.string eB, .bool false, .bool false, .int .i64 0] 75 (0, 0)) := by rw [hW9]; exact agg_set HT1.out
  have z0 : W9.cell? ⟨w.heap.size + 1, 0, none⟩ = some (.string eB) := by simp [World.cell?, h9]
  have z1 : W9.cell? ⟨w.heap.size + 1, 1, none⟩ = some (.bool false) := by simp [World.cell?, h9]
  have z2 : W9.cell? ⟨w.heap.size + 1, 2, none⟩ = some (.bool false) := by simp [World.cell?, h9]
  have z3 : W9.cell? ⟨w.heap.size + 1, 3, none⟩ = some (.int .i64 0) := by simp [World.cell?, h9]
  have HW9 := Lib.hid hW9
  rw [← hW9]
  clear hW9 h9
  refine bodyPost_ret (v := .tuple #[.agg #[.string eB, .bool false, .bool false, .int .i64 0], .bool false]) (by simp [results, Try.results52, go_sem, z0, z1, z2, z3]) rfl ⟨by rw [HR.out]; rfl, by rw [HW9.out]; exact setCells4_below HB1.out (Nat.le_succ _)⟩
 | some i =>
  have hil : i < s.names.length := by
   have := HO.out
   rw [List.findIdx?_eq_some_iff_getElem] at this
   exact this.1
  obtain ⟨b, c', hv, hbl, c0, c1, c2, c3⟩ := HNR.out.at_ hil
  simp only [Value.slice.injEq] at hv
  obtain ⟨rfl, hx9, rfl⟩ := hv
  clear hx9
  obtain ⟨kx, hkx⟩ : ∃ kx, s.names[i] = kx := ⟨_, rfl⟩
  rw [hkx] at c0 c1 c2 c3
  have HR : Hid (fndV (findN s.names t) = fndV (some kx)) := Lib.hid (by rw [HFI.out]; show fndV (s.names[i]?) = _; rw [List.getElem?_eq_getElem hil, hkx])
  have HC : Hid (w.cell? ⟨b, i * 4, none⟩ = some (.string kx.name) ∧ w.cell? ⟨b, i * 4 + 1, none⟩ = some (.bool (decide (kx.kind = 1))) ∧ w.cell? ⟨b, i * 4 + 2, none⟩ = some (.bool (decide (kx.kind = 3))) ∧ w.cell? ⟨b, i * 4 + 3, none⟩ = some (.int .i64 kx.at_)) := Lib.hid ⟨c0, c1, c2, c3⟩
  have hi2 : i < n := by rw [← HN.out]; exact hil
  have g0 : (0 : Int) ≤ (i : Int) := by omega
  have g1 : (i : Int) < (n : Int) := by omega
  clear c0 c1 c2 c3 hkx hil
  go_enter Try.func52, Try.ntmps52
  go_wp2_with (go_at_call 64; (with_reducible refine (index_known (HNR.out.same HW.out.size (fun k hk => HW.out.block k (HNR.out.lt hk)) (fun _ _ z => z)) HN.out (by omega) HF0.out).mono ?_); rw [HO.out]; rintro e w1 ⟨rfl, hb1⟩; unfold idxV; have hT := (hb1.block (w.heap.size + 1) (by simp)).trans HT0.out; have q0 : w1.cell? ⟨w.heap.size + 1, 0, none⟩ = some (.string eB) := (by simp [World.cell?, hT]); have q1 : w1.cell? ⟨w.heap.size + 1, 1, none⟩ = some (.bool false) := (by simp [World.cell?, hT]); have q2 : w1.cell? ⟨w.heap.size + 1, 2, none⟩ = some (.bool false) := (by simp [World.cell?, hT]); have q3 : w1.cell? ⟨w.heap.size + 1, 3, none⟩ = some (.int .i64 0) := (by simp [World.cell?, hT]); have r0 : w1.frozen? ⟨w.heap.size + 1, 0, none⟩ = false := (by simp [World.frozen?, hT]); have r1 : w1.frozen? ⟨w.heap.size + 1, 1, none⟩ = false := (by simp [World.frozen?, hT]); have r2 : w1.frozen? ⟨w.heap.size + 1, 2, none⟩ = false := (by simp [World.frozen?, hT]); have r3 : w1.frozen? ⟨w.heap.size + 1, 3, none⟩ = false := (by simp [World.frozen?, hT]); have HB1 := Lib.hid (HW.out.trans (hb1.mono HW.out.size)); have HT1 := Lib.hid hT; have e0 := (HB1.out.cell (p := ⟨b, i * 4, none⟩) hbl).trans HC.out.1; have e1 := (HB1.out.cell (p := ⟨b, i * 4 + 1, none⟩) hbl).trans HC.out.2.1; have e2 := (HB1.out.cell (p := ⟨b, i * 4 + 2, none⟩) hbl).trans HC.out.2.2.1; have e3 := (HB1.out.cell (p := ⟨b, i * 4 + 3, none⟩) hbl).trans HC.out.2.2.2; have k6' : w1.cell? ⟨cb, 6, none⟩ = some (.slice (some ⟨b, 0, none⟩) n c) := (HB1.out.cell (p := ⟨cb, 6, none⟩) hcbl).trans k6; clear hb1 hT)
  obtain ⟨W9, hW9⟩ : ∃ W9, W9 = ((((w1.setCell ⟨w.heap.size + 1, 0, none⟩ (.string kx.name)).setCell ⟨w.heap.size + 1, 1, none⟩ (.bool (decide (kx.kind = 1)))).setCell ⟨w.heap.size + 1, 2, none⟩ (.bool (decide (kx.kind = 3)))).setCell ⟨w.heap.size + 1, 3, none⟩ (.int .i64 kx.at_)) := ⟨_, rfl⟩
  have h9 : W9.heap[w.heap.size + 1]? = some (.cells #[.string kx.name, .bool (decide (kx.kind = 1)), .bool (decide (kx.kind = 3)), .int .i64 kx.at_] 75 (0, 0)) := by rw [hW9]; exact agg_set HT1.out
  have z0 : W9.cell? ⟨w.heap.size + 1, 0, none⟩ = some (.string kx.name) := by simp [World.cell?, h9]
  have z1 : W9.cell? ⟨w.heap.size + 1, 1, none⟩ = some (.bool (decide (kx.kind = 1))) := by simp [World.cell?, h9]
  have z2 : W9.cell? ⟨w.heap.size + 1, 2, none⟩ = some (.bool (decide (kx.kind = 3))) := by simp [World.cell?, h9]
  have z3 : W9.cell? ⟨w.heap.size + 1, 3, none⟩ = some (.int .i64 kx.at_) := by simp [World.cell?, h9]
  have HW9 := Lib.hid hW9
  rw [← hW9]
  clear hW9 h9
  refine bodyPost_ret (v := .tuple #[.agg #[.string kx.name, .bool (decide (kx.kind = 1)), .bool (decide (kx.kind = 3)), .int .i64 kx.at_], .bool true]) (by simp [results, Try.results52, go_sem, z0, z1, z2, z3]) rfl ⟨by rw [HR.out]; rfl, by rw [HW9.out]; exact setCells4_below HB1.out (Nat.le_succ _)⟩
end Go.Proofs.Ytnojndgmgkgnpaa

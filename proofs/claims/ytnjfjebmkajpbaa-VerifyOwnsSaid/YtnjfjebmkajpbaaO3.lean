/- Contracts: few. -/
import Derived.Test.YtnjfjebmkajpbaaO2
import Derived.Test.YtnjfjebmkajpbaaM4
namespace Go.Proofs.Ytnjfjebmkajpbaa
open Go.ChangeShapes Go.WideShapes Go.ChangeAt Go.RowKit
set_option linter.unusedVariables false
set_option linter.unusedSimpArgs false

def cutN (n m : Nat) : Nat := if m < n then m else n
theorem cutN_le (n m : Nat) : cutN n m ≤ n ∧ cutN n m ≤ m := by unfold cutN; split <;> omega
def cutS (s : ByteArray) (m : Nat) : ByteArray := if m < s.size then s.extract 0 m else s
theorem cutS_size (s : ByteArray) (m : Nat) : (cutS s m).size ≤ s.size := by
  unfold cutS; split
  · simp [ByteArray.size_extract]; omega
  · exact Nat.le_refl _
/-- the box of a method, and the result's -/
structure FewS (w : World) (sel : ByteArray) (args temps prim : Int) (p q : Option Addr) (n c m c5 : Nat) (wx : World) : Prop where
  bel : Below w.heap.size w wx
  box : wx.heap[w.heap.size]? = some (.cells #[.string sel, .int .i64 args, .int .i64 temps, .int .i64 prim, .slice p n c, .slice q m c5] 25 (0, 0))
  res : wx.heap[w.heap.size + 1]? = some (.cells #[.string ⟨#[]⟩, .int .i64 0, .int .i64 0, .int .i64 0, .slice none 0 0, .slice none 0 0] 25 (0, 0))
section
variable {w wx : World} {sel : ByteArray} {args temps prim : Int} {p q : Option Addr} {c c5 : Nat} {n m : Nat}
theorem six_cells {b : Nat} {a0 a1 a2 a3 a4 a5 : Value} {t : TypeId} (h : w.heap[b]? = some (.cells #[a0, a1, a2, a3, a4, a5] t (0, 0))) : w.cell? ⟨b, 0, none⟩ = some a0 ∧ w.cell? ⟨b, 1, none⟩ = some a1 ∧ w.cell? ⟨b, 2, none⟩ = some a2 ∧ w.cell? ⟨b, 3, none⟩ = some a3 ∧ w.cell? ⟨b, 4, none⟩ = some a4 ∧ w.cell? ⟨b, 5, none⟩ = some a5 := by
  refine ⟨?_, ?_, ?_, ?_, ?_, ?_⟩ <;> simp [World.cell?, h]
theorem any_free {b : Nat} {cs : Array Value} {t : TypeId} (h : w.heap[b]? = some (.cells cs t (0, 0))) (j : Nat) : w.frozen? ⟨b, j, none⟩ = false := by simp [World.frozen?, h]
theorem FewS.start (w : World) {sel : ByteArray} {args temps prim : Int} {p q : Option Addr} {c c5 : Nat} (n m : Nat) : FewS w sel args temps prim p q n c m c5 ((w.alloc (.cells #[.string sel, .int .i64 args, .int .i64 temps, .int .i64 prim, .slice p n c, .slice q m c5] 25)).alloc (.cells #[.string ⟨#[]⟩, .int .i64 0, .int .i64 0, .int .i64 0, .slice none 0 0, .slice none 0 0] 25)) := by
  have hb : Below (w.alloc (.cells #[.string sel, .int .i64 args, .int .i64 temps, .int .i64 prim, .slice p n c, .slice q m c5] 25)).heap.size (w.alloc (.cells #[.string sel, .int .i64 args, .int .i64 temps, .int .i64 prim, .slice p n c, .slice q m c5] 25)) ((w.alloc (.cells #[.string sel, .int .i64 args, .int .i64 temps, .int .i64 prim, .slice p n c, .slice q m c5] 25)).alloc (.cells #[.string ⟨#[]⟩, .int .i64 0, .int .i64 0, .int .i64 0, .slice none 0 0, .slice none 0 0] 25)) := (Below.refl _ _).alloc (Nat.le_refl _) _
  refine ⟨by (repeat' (first | (with_reducible exact Below.refl _ _) | (with_reducible assumption) | (with_reducible refine below_drewN ?_ _) | (with_reducible refine Below.alloc ?_ ?_ _) | (with_reducible refine Below.drew ?_) | (with_reducible refine Below.setCell ?_ ?_ _) | go_size)), (hb.block _ (by simp)).trans (heap_alloc_new w _), ?_⟩
  have := heap_alloc_new (w.alloc (.cells #[.string sel, .int .i64 args, .int .i64 temps, .int .i64 prim, .slice p n c, .slice q m c5] 25)) (.cells #[.string ⟨#[]⟩, .int .i64 0, .int .i64 0, .int .i64 0, .slice none 0 0, .slice none 0 0] 25)
  simpa using this
theorem FewS.lits (h : FewS w sel args temps prim p q n c m c5 wx) (n' : Nat) : FewS w sel args temps prim p q n' c m c5 (wx.setCell ⟨w.heap.size, 4, none⟩ (.slice p n' c)) :=
  ⟨h.bel.setCell (Nat.le_refl _) _, by rw [heap_setCell_same wx w.heap.size 4 _ _ _ h.box]; rfl, by rw [Below.heap_setCell _ _ _ _ (by simp)]; exact h.res⟩
theorem FewS.code (h : FewS w sel args temps prim p q n c m c5 wx) (m' : Nat) : FewS w sel args temps prim p q n c m' c5 (wx.setCell ⟨w.heap.size, 5, none⟩ (.slice q m' c5)) :=
  ⟨h.bel.setCell (Nat.le_refl _) _, by rw [heap_setCell_same wx w.heap.size 5 _ _ _ h.box]; rfl, by rw [Below.heap_setCell _ _ _ _ (by simp)]; exact h.res⟩
theorem FewS.sel_ (h : FewS w sel args temps prim p q n c m c5 wx) (s : ByteArray) : FewS w s args temps prim p q n c m c5 (wx.setCell ⟨w.heap.size, 0, none⟩ (.string s)) :=
  ⟨h.bel.setCell (Nat.le_refl _) _, by rw [heap_setCell_same wx w.heap.size 0 _ _ _ h.box]; rfl, by rw [Below.heap_setCell _ _ _ _ (by simp)]; exact h.res⟩
theorem FewS.below (h : FewS w sel args temps prim p q n c m c5 wx) {w' : World} (hb : Below wx.heap.size wx w') : FewS w sel args temps prim p q n c m c5 w' :=
  ⟨h.bel.trans (hb.mono h.bel.size), (hb.block _ (lt_of_block h.box)).trans h.box, (hb.block _ (lt_of_block h.res)).trans h.res⟩
end

set_option maxRecDepth 100000 in
set_option maxHeartbeats 16000000 in
theorem few_go {w0 : World} {sel : ByteArray} {args temps prim : Int} {p q : Option Addr} {c c5 : Nat} {us : List LitT} {nl n5 : Nat} {F : Nat → Nat → Value} (w : World) (hB : Below w0.heap.size w0 w) (hcl : us.length = cutN nl 70) (hlt' : IsLits w0 p (cutN nl 70) F us) (hnc : nl ≤ c) (hc2 : c ≤ 9223372036854775807) (hc3 : n5 ≤ c5) (hc4 : c5 ≤ 9223372036854775807) (hss : sel.size ≤ 9223372036854775807) :
    Calls Try.prog 7 #[.agg #[.string sel, .int .i64 args, .int .i64 temps, .int .i64 prim, .slice p nl c, .slice q n5 c5]] w fun e w' => ∃ ok : Bool, e = .returned (.tuple #[.agg #[.string (cutS sel 80), .int .i64 args, .int .i64 temps, .int .i64 prim, .slice p (cutN nl 70) c, .slice q (cutN n5 420) c5], .bool ok]) ∧ (ok = true → ∀ (i : Nat) (h : i < us.length), hgt us[i] ≤ 60) ∧ Below w.heap.size w w' := by
  have hS := FewS.start w (sel := sel) (args := args) (temps := temps) (prim := prim) (p := p) (q := q) (c := c) (c5 := c5) nl n5
  obtain ⟨sv, hsv⟩ : ∃ sv, cutS sel 80 = sv := ⟨_, rfl⟩
  obtain ⟨nv, hnv⟩ : ∃ nv, cutN nl 70 = nv := ⟨_, rfl⟩
  obtain ⟨mv, hmv⟩ : ∃ mv, cutN n5 420 = mv := ⟨_, rfl⟩
  have hn70 := cutN_le nl 70
  rw [hsv, hnv, hmv]
  rw [hnv] at hlt' hcl hn70
  have HSV := Lib.hid hsv
  have HNV := Lib.hid hnv
  have HMV := Lib.hid hmv
  have HL := Lib.hid hlt'
  have HCL := Lib.hid hcl
  clear hlt' hcl hsv hnv hmv
  go_enter Try.func7, Try.ntmps7
  obtain ⟨y0, y1, y2, y3, y4, y5⟩ := six_cells hS.box
  have fz := any_free hS.box
  have hz := lt_of_block hS.box
  go_upto_if 8 with (fail)
  go_cut [] (fun wx => FewS w sel args temps prim p q nv c n5 c5 wx)
  case first =>
    by_cases h : 70 < nl
    · have d : decide (70 < nl) = true := decide_eq_true h
      have d' : decide ((70 : Int) < (nl : Int)) = true := decide_eq_true (by omega)
      have b : (70 : Int) ≤ (nl : Int) := by omega
      have b' : 70 ≤ nl := by omega
      have b3 : ¬ nl ≤ 70 := by omega
      skip
      go_wp2_with fail
      go_meet
      rw [show nv = 70 by rw [← HNV.out]; exact if_pos h]; exact FewS.start w 70 n5
    · have d : decide (70 < nl) = false := decide_eq_false h
      have d' : decide ((70 : Int) < (nl : Int)) = false := decide_eq_false (by omega)
      go_wp2_with fail
      go_meet
      rw [show nv = nl by rw [← HNV.out]; exact if_neg h]; exact hS
  replace hS := hcut
  clear y0 y1 y2 y3 y4 y5 fz hz hcut
  obtain ⟨y0, y1, y2, y3, y4, y5⟩ := six_cells hS.box
  have fz := any_free hS.box
  have hz := lt_of_block hS.box
  go_upto_if 16 with (fail)
  go_cut [] (fun wx => FewS w sel args temps prim p q nv c mv c5 wx)
  case first =>
    by_cases h : 420 < n5
    · have d : decide (420 < n5) = true := decide_eq_true h
      have d' : decide ((420 : Int) < (n5 : Int)) = true := decide_eq_true (by omega)
      have b : (420 : Int) ≤ (n5 : Int) := by omega
      have b' : 420 ≤ n5 := by omega
      have b3 : ¬ n5 ≤ 420 := by omega
      skip
      go_wp2_with fail
      go_meet
      rw [show mv = 420 by rw [← HMV.out]; exact if_pos h]; exact hS.code 420
    · have d : decide (420 < n5) = false := decide_eq_false h
      have d' : decide ((420 : Int) < (n5 : Int)) = false := decide_eq_false (by omega)
      go_wp2_with fail
      go_meet
      rw [show mv = n5 by rw [← HMV.out]; exact if_neg h]; exact hS
  replace hS := hcut
  clear y0 y1 y2 y3 y4 y5 fz hz hcut
  obtain ⟨y0, y1, y2, y3, y4, y5⟩ := six_cells hS.box
  have fz := any_free hS.box
  have hz := lt_of_block hS.box
  go_upto_if 24 with (fail)
  go_cut [] (fun wx => FewS w sv args temps prim p q nv c mv c5 wx)
  case first =>
    by_cases h : 80 < sel.size
    · have d : decide (80 < sel.size) = true := decide_eq_true h
      have d' : decide ((80 : Int) < (sel.size : Int)) = true := decide_eq_true (by omega)
      have b : (80 : Int) ≤ (sel.size : Int) := by omega
      have b' : 80 ≤ sel.size := by omega
      have b3 : ¬ sel.size ≤ 80 := by omega
      skip
      go_wp2_with fail
      go_meet
      rw [show sv = sel.extract 0 80 by rw [← HSV.out]; exact if_pos h]; exact hS.sel_ _
    · have d : decide (80 < sel.size) = false := decide_eq_false h
      have d' : decide ((80 : Int) < (sel.size : Int)) = false := decide_eq_false (by omega)
      go_wp2_with fail
      go_meet
      rw [show sv = sel by rw [← HSV.out]; exact if_neg h]; exact hS
  replace hS := hcut
  clear y0 y1 y2 y3 y4 y5 fz hz hcut
  have HS := Lib.hid hS
  clear hS
  go_wp2_with fail
  go_loopw [4] (fun i wr => ∃ k : Nat, k ≤ nv ∧ i = .int .i64 k ∧ (∀ j, (h : j < us.length) → j < k → hgt us[j] ≤ 60) ∧ FewS w sv args temps prim p q nv c mv c5 wr) (fun i _ => nv - (intOf i).toNat)
  case atStart => exact ⟨0, Nat.zero_le _, rfl, fun j _ hj => absurd hj (by omega), HS.out⟩
  case round =>
    clear HS
    obtain ⟨k, hk, rfl, hall, hS⟩ := hrel
    have HALL := Lib.hid hall
    have HS := Lib.hid hS
    clear hall
    obtain ⟨y0, y1, y2, y3, y4, y5⟩ := six_cells hS.box
    have fz := any_free hS.box
    have hz := lt_of_block hS.box
    obtain ⟨r0, r1, r2, r3, r4, r5⟩ := six_cells hS.res
    have fr := any_free hS.res
    have hr := lt_of_block hS.res
    have hB0 := hB.trans (hS.bel.mono hB.size)
    by_cases hlt : k < nv
    · have d1 : decide (k < nv) = true := decide_eq_true hlt
      have hku : k < us.length := by rw [HCL.out]; exact hlt
      obtain ⟨g, off, rfl, hgl, hc⟩ := HL.out.2.1 (by omega)
      obtain ⟨pp, cc, GG, e0', e1, e2, e3, _⟩ := (HL.out.2.2 k hku).cells
      have b0 := (hB0.cell (p := ⟨g, off + k * 4 + 0, none⟩) hgl).trans (hc k hlt 0 (by omega))
      have b1 := (hB0.cell (p := ⟨g, off + k * 4 + 1, none⟩) hgl).trans (hc k hlt 1 (by omega))
      have b2 := (hB0.cell (p := ⟨g, off + k * 4 + 2, none⟩) hgl).trans (hc k hlt 2 (by omega))
      have b3 := (hB0.cell (p := ⟨g, off + k * 4 + 3, none⟩) hgl).trans (hc k hlt 3 (by omega))
      rw [Nat.add_zero, e0'] at b0
      rw [e1] at b1
      rw [e2] at b2
      rw [e3] at b3
      have hcall := parts_any (HL.out.2.2 k hku) wr 60 hB0 (by omega) (by omega)
      rw [e0', e1, e2, e3] at hcall
      have HCALL := Lib.hid hcall
      clear hc hcall e0' e1 e2 e3 hS
      have g0 : (0 : Int) ≤ (k : Int) := by omega
      have g1 : (k : Int) < (nv : Int) := by omega
      go_wp2_with fail
      (with_reducible refine HCALL.out.mono ?_)
      rintro e w3 ⟨⟨rr, rfl, hrr⟩, hb3⟩
      have hS3 := HS.out.below hb3
      obtain ⟨z0, z1, z2, z3, z4, z5⟩ := six_cells hS3.box
      have fz3 := any_free hS3.box
      have fr3 := any_free hS3.res
      obtain ⟨s0, s1, s2, s3, s4, s5⟩ := six_cells hS3.res
      have hz3 := lt_of_block hS3.box
      have hr3 := lt_of_block hS3.res
      have HS3 := Lib.hid hS3
      have HB3 := hS3.bel
      clear hS3 hb3 y0 y1 y2 y3 y4 y5 fz hz r0 r1 r2 r3 r4 r5 fr hr b0 b1 b2 b3
      by_cases hneg : rr < 0
      · have d2 : decide (rr < 0) = true := decide_eq_true hneg
        go_wp2_with fail
        refine bodyPost_ret (v := .tuple #[.agg #[.string sv, .int .i64 args, .int .i64 temps, .int .i64 prim, .slice (some ⟨g, off, none⟩) nv c, .slice q mv c5], .bool false]) (by simp [results, Try.results7, go_sem, *]) rfl ⟨false, rfl, (fun h => by cases h), ?_⟩
        (repeat' (first | (with_reducible exact Below.refl _ _) | (with_reducible assumption) | (with_reducible refine below_drewN ?_ _) | (with_reducible refine Below.alloc ?_ ?_ _) | (with_reducible refine Below.drew ?_) | (with_reducible refine Below.setCell ?_ ?_ _) | go_size))
      · have d2 : decide (rr < 0) = false := decide_eq_false hneg
        go_wp2_with fail
        go_roundw
        case rel => exact ⟨k + 1, by omega, by go_num, fun j hj hjk => (by
            rcases Nat.lt_or_ge j k with h | h
            · exact HALL.out j hj h
            · obtain rfl : j = k := by omega
              omega), HS3.out⟩
        case measure => simp [intOf]; omega
    · have hkn : k = nv := by omega
      have d1 : decide (k < nv) = false := decide_eq_false hlt
      clear hlt
      subst hkn
      have HBL := hS.bel
      clear hS
      go_wp2_with fail
      refine bodyPost_ret (v := .tuple #[.agg #[.string sv, .int .i64 args, .int .i64 temps, .int .i64 prim, .slice p k c, .slice q mv c5], .bool true]) (by simp [results, Try.results7, go_sem, *]) rfl ⟨true, rfl, fun _ i hi => HALL.out i hi (by rw [← HCL.out]; exact hi), ?_⟩
      (repeat' (first | (with_reducible exact Below.refl _ _) | (with_reducible assumption) | (with_reducible refine below_drewN ?_ _) | (with_reducible refine Below.alloc ?_ ?_ _) | (with_reducible refine Below.drew ?_) | (with_reducible refine Below.setCell ?_ ?_ _) | go_size))

theorem few_any {w0 : World} {sel : ByteArray} {args temps prim : Int} {p q : Option Addr} {c c5 : Nat} {ts : List LitT} {n5 : Nat} {F : Nat → Nat → Value} {C : Nat → Ins} (R : RawM w0 sel p c F ts q n5 c5 C) (w : World) (hB : Below w0.heap.size w0 w) :
    Calls Try.prog 7 #[.agg #[.string sel, .int .i64 args, .int .i64 temps, .int .i64 prim, .slice p ts.length c, .slice q n5 c5]] w fun e w' => ∃ ok : Bool, e = .returned (.tuple #[.agg #[.string (cutS sel 80), .int .i64 args, .int .i64 temps, .int .i64 prim, .slice p (cutN ts.length 70) c, .slice q (cutN n5 420) c5], .bool ok]) ∧ (ok = true → ∀ (i : Nat) (h : i < (ts.take (cutN ts.length 70)).length), hgt (ts.take (cutN ts.length 70))[i] ≤ 60) ∧ Below w.heap.size w w' := by
  obtain ⟨hl, hc1, hc2, ⟨hcode, hc3, hc4⟩, hss⟩ := R
  have hcl : (ts.take (cutN ts.length 70)).length = cutN ts.length 70 := by have := cutN_le ts.length 70; simp; omega
  have hl' := hl.take (cutN ts.length 70) (cutN_le _ _).1
  exact few_go w hB hcl (by obtain ⟨h1, h2, h3⟩ := hl'; exact ⟨hcl, h2.less (by omega), h3⟩) hc1 hc2 hc3 hc4 hss
end Go.Proofs.Ytnjfjebmkajpbaa

/- Contracts of chapter 18's reference: operands, sends, strokes. -/
import Derived.Test.YtjiidjcehhdnbaaFW5
namespace Go.Proofs.Ytjiidjcehhdnbaa
open Go.ChangeShapes Go.WideShapes Go.ChangeAt Go.RowKit
set_option linter.unusedVariables false
set_option linter.unusedSimpArgs false
section
variable {w0 w : World} {LA : Option Addr} {ln lc : Nat} {CA : Option Addr} {cn cc : Nat} {L : Nat → LitR} {C : Nat → InsR} {s : ByteArray} {x0 x1 x2 : Int} {TA : Option Addr} {tn tc : Nat} {TF : Nat → Int} {FA : Option Addr} {fn fc : Nat} {FF : Nat → Int} {self : Int}

theorem ropnd2_any (hM : IsM w0 LA ln CA cn L C) (hT : Words w0 TA tn TF) (hF : Words w0 FA fn FF) (hB : Below w0.heap.size w0 w) (p : Int) :
    Calls Try.prog 15 #[.agg #[.string s, .int .i64 x0, .int .i64 x1, .int .i64 x2, .slice LA ln lc, .slice CA cn cc], .int .i64 p, .int .i64 self, .slice TA tn tc, .slice FA fn fc] w fun e w' => e = .returned (.tuple #[.int .i64 (opndV ln L cn C self tn TF fn FF p).1, .bool (opndV ln L cn C self tn TF fn FF p).2]) ∧ Below w.heap.size w w' := by
  have hI : Inv w0 w (w.alloc (.cells #[.string s, .int .i64 x0, .int .i64 x1, .int .i64 x2, .slice LA ln lc, .slice CA cn cc] 25)) (w.alloc (.cells #[.string s, .int .i64 x0, .int .i64 x1, .int .i64 x2, .slice LA ln lc, .slice CA cn cc] 25)) := Inv.start hB (by (repeat' (first | (with_reducible exact Below.refl _ _) | (with_reducible assumption) | (with_reducible refine below_drewN ?_ _) | (with_reducible refine Below.alloc ?_ ?_ _) | (with_reducible refine Below.drew ?_) | (with_reducible refine Below.setCell ?_ ?_ _) | go_size)))
  clear hB
  go_enter Try.func15, Try.ntmps15
  go_wp2_with (go_at_call 20; (with_reducible refine (ropnd_any hM hT hF (hI.at0 (by (repeat' (first | (with_reducible exact Below.refl _ _) | (with_reducible assumption) | (with_reducible refine below_drewN ?_ _) | (with_reducible refine Below.alloc ?_ ?_ _) | (with_reducible refine Below.drew ?_) | (with_reducible refine Below.setCell ?_ ?_ _) | go_size)))) _).mono ?_); rintro e w1 ⟨rfl, hb⟩; (try clear hc hf hl0); replace hI := hI.step (by (repeat' (first | (with_reducible exact Below.refl _ _) | (with_reducible assumption) | (with_reducible refine below_drewN ?_ _) | (with_reducible refine Below.alloc ?_ ?_ _) | (with_reducible refine Below.drew ?_) | (with_reducible refine Below.setCell ?_ ?_ _) | go_size))) hb; clear hb; have hc := hI.cell; have hf := hI.frozen; have hl0 := hI.lt_ (b := w.heap.size) (by simp only [World.size_alloc, World.size_setCell, World.size_drew, size_drewN]; omega); (try simp only [World.size_alloc, World.size_setCell, World.size_drew, size_drewN] at hc hf))
  go_ret2
  refine ⟨rfl, ?_⟩
  (have hS := hI.bw; (repeat' (first | (with_reducible exact Below.refl _ _) | (with_reducible assumption) | (with_reducible refine below_drewN ?_ _) | (with_reducible refine Below.alloc ?_ ?_ _) | (with_reducible refine Below.drew ?_) | (with_reducible refine Below.setCell ?_ ?_ _) | go_size)))

theorem is_any (hM : IsM w0 LA ln CA cn L C) (hB : Below w0.heap.size w0 w) (p op : Int) (hop : (0 == op) = false) :
    Calls Try.prog 21 #[.agg #[.string s, .int .i64 x0, .int .i64 x1, .int .i64 x2, .slice LA ln lc, .slice CA cn cc], .int .i64 p, .int .i64 op] w fun e w' => e = .returned (.bool ((insAt cn C p).op == op)) ∧ Below w.heap.size w w' := by
  have hn := hM.cn_le
  by_cases hin : 0 ≤ p ∧ p < cn
  · obtain ⟨k, rfl⟩ := Int.eq_ofNat_of_zero_le hin.1
    have hk : k < cn := by omega
    obtain ⟨b, off, rfl, hlt, c0, c1, c2⟩ := hM.ins hB hk
    have hi : insAt cn C (k : Int) = C k := if_pos hin
    have F : Hid (((insAt cn C (k : Int)).op == op) = ((C k).op == op)) := by show _ = _; rw [hi]
    clear hi hM hB hin
    go_enter Try.func21, Try.ntmps21
    go_wp2
    go_ret
    refine ⟨by (rw [F.out]; try rfl), ?_⟩
    (repeat' (first | (with_reducible exact Below.refl _ _) | (with_reducible refine below_drewN ?_ _) | (with_reducible refine Below.alloc ?_ ?_ _) | (with_reducible refine Below.drew ?_) | go_size))
    
  · have hi : insAt cn C p = noIns := if_neg hin
    have F : Hid (((insAt cn C p).op == op) = false) := by show _ = _; rw [hi]; exact hop
    clear hi hM hB
    by_cases hneg : p < 0
    · have q1 : decide (0 ≤ p) = false := decide_eq_false (by omega)
      clear hin
      go_enter Try.func21, Try.ntmps21
      go_wp2
      go_ret
      refine ⟨by (rw [F.out]; try rfl), ?_⟩
      (repeat' (first | (with_reducible exact Below.refl _ _) | (with_reducible refine below_drewN ?_ _) | (with_reducible refine Below.alloc ?_ ?_ _) | (with_reducible refine Below.drew ?_) | go_size))
      
    · have q1 : decide (0 ≤ p) = true := decide_eq_true (by omega)
      have q2 : decide (p < (cn : Int)) = false := decide_eq_false (by omega)
      clear hin
      go_enter Try.func21, Try.ntmps21
      go_wp2
      go_ret
      refine ⟨by (rw [F.out]; try rfl), ?_⟩
      (repeat' (first | (with_reducible exact Below.refl _ _) | (with_reducible refine below_drewN ?_ _) | (with_reducible refine Below.alloc ?_ ?_ _) | (with_reducible refine Below.drew ?_) | go_size))
      

set_option maxHeartbeats 2000000 in
theorem send_any (hM : IsM w0 LA ln CA cn L C) (hB : Below w0.heap.size w0 w) (p args : Int) :
    Calls Try.prog 22 #[.agg #[.string s, .int .i64 x0, .int .i64 x1, .int .i64 x2, .slice LA ln lc, .slice CA cn cc], .int .i64 p, .int .i64 args] w fun e w' => e = .returned (.string (selV ln L cn C p args)) ∧ Below w.heap.size w w' := by
  have hn := hM.cn_le
  have hln := hM.ln_le
  have hI : Inv w0 w (w.alloc (.cells #[.string s, .int .i64 x0, .int .i64 x1, .int .i64 x2, .slice LA ln lc, .slice CA cn cc] 25)) (w.alloc (.cells #[.string s, .int .i64 x0, .int .i64 x1, .int .i64 x2, .slice LA ln lc, .slice CA cn cc] 25)) := Inv.start hB (by (repeat' (first | (with_reducible exact Below.refl _ _) | (with_reducible assumption) | (with_reducible refine below_drewN ?_ _) | (with_reducible refine Below.alloc ?_ ?_ _) | (with_reducible refine Below.drew ?_) | (with_reducible refine Below.setCell ?_ ?_ _) | go_size)))
  cases t : (insAt cn C p).op == 14
  · have F : Hid (selV ln L cn C p args = ⟨#[]⟩) := by
      show selV ln L cn C p args = _
      unfold selV; rw [if_neg]; intro h; rw [h.1] at t; cases t
    have HT := Lib.hid t
    clear t hB
    go_enter Try.func22, Try.ntmps22
    go_wp2_with (go_at_call 21; (with_reducible refine (is_any hM (hI.at0 (by (repeat' (first | (with_reducible exact Below.refl _ _) | (with_reducible assumption) | (with_reducible refine below_drewN ?_ _) | (with_reducible refine Below.alloc ?_ ?_ _) | (with_reducible refine Below.drew ?_) | (with_reducible refine Below.setCell ?_ ?_ _) | go_size)))) _ _ rfl).mono ?_); rw [HT.out]; rintro e w1 ⟨rfl, hb⟩; (try clear hc hf hl0); replace hI := hI.step (by (repeat' (first | (with_reducible exact Below.refl _ _) | (with_reducible assumption) | (with_reducible refine below_drewN ?_ _) | (with_reducible refine Below.alloc ?_ ?_ _) | (with_reducible refine Below.drew ?_) | (with_reducible refine Below.setCell ?_ ?_ _) | go_size))) hb; clear hb; have hc := hI.cell; have hf := hI.frozen; have hl0 := hI.lt_ (b := w.heap.size) (by simp only [World.size_alloc, World.size_setCell, World.size_drew, size_drewN]; omega); (try simp only [World.size_alloc, World.size_setCell, World.size_drew, size_drewN] at hc hf))
    go_quiet (fail)
    go_wp2
    go_ret
    refine ⟨by (rw [F.out]; try rfl), ?_⟩
    have hS := hI.bw
    (repeat' (first | (with_reducible exact Below.refl _ _) | (with_reducible assumption) | (with_reducible refine below_drewN ?_ _) | (with_reducible refine Below.alloc ?_ ?_ _) | (with_reducible refine Below.drew ?_) | (with_reducible refine Below.setCell ?_ ?_ _) | go_size))
    
  · have hin : 0 ≤ p ∧ p < cn := by
      by_cases h : 0 ≤ p ∧ p < cn
      · exact h
      · rw [show insAt cn C p = noIns from if_neg h] at t; cases t
    obtain ⟨k, rfl⟩ := Int.eq_ofNat_of_zero_le hin.1
    have hk : k < cn := by omega
    obtain ⟨b, off, rfl, hlt, c0, c1, c2⟩ := hM.ins hB hk
    have hi : insAt cn C (k : Int) = C k := if_pos hin
    have F0 : selV ln L cn C (k : Int) args = if (C k).op = 14 ∧ (C k).b = args ∧ (litAt ln L (C k).a).kind = 3 then (litAt ln L (C k).a).text else ⟨#[]⟩ := by unfold selV; rw [hi]
    have e1 : (C k).op = 14 := by rw [hi] at t; simpa using t
    have HT := Lib.hid t
    obtain ⟨i, hC⟩ : ∃ i, C k = i := ⟨_, rfl⟩
    rw [hC] at c0 c1 c2 F0 e1
    have hlt2 : b ≤ w.heap.size := by omega
    have hlt3 : b < w.heap.size + 1 := by omega
    clear hC hi t hin
    by_cases eb : i.b = args
    · have gb : (i.b != args) = false := by simpa using eb
      by_cases ha : 0 ≤ i.a ∧ i.a < ln
      · obtain ⟨j, hj⟩ := Int.eq_ofNat_of_zero_le ha.1
        have hj' : j < ln := by omega
        obtain ⟨b', off', rfl, hlt', l0, l1, l2, l3⟩ := hM.lit hB hj'
        have hl : litAt ln L i.a = L j := by rw [hj]; rw [hj] at ha; exact if_pos ha
        obtain ⟨l, hL⟩ : ∃ l, L j = l := ⟨_, rfl⟩
        rw [hL] at l0 l1 l2 l3 hl
        rw [hl] at F0
        have hl2 : b' ≤ w.heap.size := by omega
        have hl3 : b' < w.heap.size + 1 := by omega
        clear hL hl
        obtain ⟨io, ia, ib⟩ := i
        obtain rfl : ia = j := hj
        by_cases ek : l.kind = 3
        · have gk : (l.kind != 3) = false := by simpa using ek
          have F : Hid (selV ln L cn C (k : Int) args = l.text) := F0.trans (if_pos ⟨e1, eb, ek⟩)
          clear F0 e1 eb ek ha hB
          go_enter Try.func22, Try.ntmps22
          go_wp2_with (go_at_call 21; (with_reducible refine (is_any hM (hI.at0 (by (repeat' (first | (with_reducible exact Below.refl _ _) | (with_reducible assumption) | (with_reducible refine below_drewN ?_ _) | (with_reducible refine Below.alloc ?_ ?_ _) | (with_reducible refine Below.drew ?_) | (with_reducible refine Below.setCell ?_ ?_ _) | go_size)))) _ _ rfl).mono ?_); rw [HT.out]; rintro e w1 ⟨rfl, hb⟩; (try clear hc hf hl0); replace hI := hI.step (by (repeat' (first | (with_reducible exact Below.refl _ _) | (with_reducible assumption) | (with_reducible refine below_drewN ?_ _) | (with_reducible refine Below.alloc ?_ ?_ _) | (with_reducible refine Below.drew ?_) | (with_reducible refine Below.setCell ?_ ?_ _) | go_size))) hb; clear hb; have hc := hI.cell; have hf := hI.frozen; have hl0 := hI.lt_ (b := w.heap.size) (by simp only [World.size_alloc, World.size_setCell, World.size_drew, size_drewN]; omega); (try simp only [World.size_alloc, World.size_setCell, World.size_drew, size_drewN] at hc hf))
          go_quiet (fail)
          go_wp2
          go_quiet (fail)
          go_wp2
          go_ret
          refine ⟨by (rw [F.out]; try rfl), ?_⟩
          have hS := hI.bw
          (repeat' (first | (with_reducible exact Below.refl _ _) | (with_reducible assumption) | (with_reducible refine below_drewN ?_ _) | (with_reducible refine Below.alloc ?_ ?_ _) | (with_reducible refine Below.drew ?_) | (with_reducible refine Below.setCell ?_ ?_ _) | go_size))
          
        · have gk : (l.kind != 3) = true := by simpa using ek
          have F : Hid (selV ln L cn C (k : Int) args = ⟨#[]⟩) := F0.trans (if_neg fun h => ek h.2.2)
          clear F0 e1 eb ek ha hB
          go_enter Try.func22, Try.ntmps22
          go_wp2_with (go_at_call 21; (with_reducible refine (is_any hM (hI.at0 (by (repeat' (first | (with_reducible exact Below.refl _ _) | (with_reducible assumption) | (with_reducible refine below_drewN ?_ _) | (with_reducible refine Below.alloc ?_ ?_ _) | (with_reducible refine Below.drew ?_) | (with_reducible refine Below.setCell ?_ ?_ _) | go_size)))) _ _ rfl).mono ?_); rw [HT.out]; rintro e w1 ⟨rfl, hb⟩; (try clear hc hf hl0); replace hI := hI.step (by (repeat' (first | (with_reducible exact Below.refl _ _) | (with_reducible assumption) | (with_reducible refine below_drewN ?_ _) | (with_reducible refine Below.alloc ?_ ?_ _) | (with_reducible refine Below.drew ?_) | (with_reducible refine Below.setCell ?_ ?_ _) | go_size))) hb; clear hb; have hc := hI.cell; have hf := hI.frozen; have hl0 := hI.lt_ (b := w.heap.size) (by simp only [World.size_alloc, World.size_setCell, World.size_drew, size_drewN]; omega); (try simp only [World.size_alloc, World.size_setCell, World.size_drew, size_drewN] at hc hf))
          go_quiet (fail)
          go_wp2
          go_ret
          refine ⟨by (rw [F.out]; try rfl), ?_⟩
          have hS := hI.bw
          (repeat' (first | (with_reducible exact Below.refl _ _) | (with_reducible assumption) | (with_reducible refine below_drewN ?_ _) | (with_reducible refine Below.alloc ?_ ?_ _) | (with_reducible refine Below.drew ?_) | (with_reducible refine Below.setCell ?_ ?_ _) | go_size))
          
      · have hl : litAt ln L i.a = noLit := if_neg ha
        have F : Hid (selV ln L cn C (k : Int) args = ⟨#[]⟩) := by
          show _ = _
          rw [F0, hl]; simp [noLit]
        clear F0 hl e1 eb hB
        by_cases hneg : i.a < 0
        · have q1 : decide (i.a < 0) = true := decide_eq_true hneg
          clear ha
          go_enter Try.func22, Try.ntmps22
          go_wp2_with (go_at_call 21; (with_reducible refine (is_any hM (hI.at0 (by (repeat' (first | (with_reducible exact Below.refl _ _) | (with_reducible assumption) | (with_reducible refine below_drewN ?_ _) | (with_reducible refine Below.alloc ?_ ?_ _) | (with_reducible refine Below.drew ?_) | (with_reducible refine Below.setCell ?_ ?_ _) | go_size)))) _ _ rfl).mono ?_); rw [HT.out]; rintro e w1 ⟨rfl, hb⟩; (try clear hc hf hl0); replace hI := hI.step (by (repeat' (first | (with_reducible exact Below.refl _ _) | (with_reducible assumption) | (with_reducible refine below_drewN ?_ _) | (with_reducible refine Below.alloc ?_ ?_ _) | (with_reducible refine Below.drew ?_) | (with_reducible refine Below.setCell ?_ ?_ _) | go_size))) hb; clear hb; have hc := hI.cell; have hf := hI.frozen; have hl0 := hI.lt_ (b := w.heap.size) (by simp only [World.size_alloc, World.size_setCell, World.size_drew, size_drewN]; omega); (try simp only [World.size_alloc, World.size_setCell, World.size_drew, size_drewN] at hc hf))
          go_quiet (fail)
          go_wp2
          go_ret
          refine ⟨by (rw [F.out]; try rfl), ?_⟩
          have hS := hI.bw
          (repeat' (first | (with_reducible exact Below.refl _ _) | (with_reducible assumption) | (with_reducible refine below_drewN ?_ _) | (with_reducible refine Below.alloc ?_ ?_ _) | (with_reducible refine Below.drew ?_) | (with_reducible refine Below.setCell ?_ ?_ _) | go_size))
          
        · have q1 : decide (i.a < 0) = false := decide_eq_false hneg
          have q2 : decide ((ln : Int) ≤ i.a) = true := decide_eq_true (by omega)
          clear ha
          go_enter Try.func22, Try.ntmps22
          go_wp2_with (go_at_call 21; (with_reducible refine (is_any hM (hI.at0 (by (repeat' (first | (with_reducible exact Below.refl _ _) | (with_reducible assumption) | (with_reducible refine below_drewN ?_ _) | (with_reducible refine Below.alloc ?_ ?_ _) | (with_reducible refine Below.drew ?_) | (with_reducible refine Below.setCell ?_ ?_ _) | go_size)))) _ _ rfl).mono ?_); rw [HT.out]; rintro e w1 ⟨rfl, hb⟩; (try clear hc hf hl0); replace hI := hI.step (by (repeat' (first | (with_reducible exact Below.refl _ _) | (with_reducible assumption) | (with_reducible refine below_drewN ?_ _) | (with_reducible refine Below.alloc ?_ ?_ _) | (with_reducible refine Below.drew ?_) | (with_reducible refine Below.setCell ?_ ?_ _) | go_size))) hb; clear hb; have hc := hI.cell; have hf := hI.frozen; have hl0 := hI.lt_ (b := w.heap.size) (by simp only [World.size_alloc, World.size_setCell, World.size_drew, size_drewN]; omega); (try simp only [World.size_alloc, World.size_setCell, World.size_drew, size_drewN] at hc hf))
          go_quiet (fail)
          go_wp2
          go_ret
          refine ⟨by (rw [F.out]; try rfl), ?_⟩
          have hS := hI.bw
          (repeat' (first | (with_reducible exact Below.refl _ _) | (with_reducible assumption) | (with_reducible refine below_drewN ?_ _) | (with_reducible refine Below.alloc ?_ ?_ _) | (with_reducible refine Below.drew ?_) | (with_reducible refine Below.setCell ?_ ?_ _) | go_size))
          
    · have gb : (i.b != args) = true := by simpa using eb
      have F : Hid (selV ln L cn C (k : Int) args = ⟨#[]⟩) := F0.trans (if_neg fun h => eb h.2.1)
      clear F0 e1 eb hB
      go_enter Try.func22, Try.ntmps22
      go_wp2_with (go_at_call 21; (with_reducible refine (is_any hM (hI.at0 (by (repeat' (first | (with_reducible exact Below.refl _ _) | (with_reducible assumption) | (with_reducible refine below_drewN ?_ _) | (with_reducible refine Below.alloc ?_ ?_ _) | (with_reducible refine Below.drew ?_) | (with_reducible refine Below.setCell ?_ ?_ _) | go_size)))) _ _ rfl).mono ?_); rw [HT.out]; rintro e w1 ⟨rfl, hb⟩; (try clear hc hf hl0); replace hI := hI.step (by (repeat' (first | (with_reducible exact Below.refl _ _) | (with_reducible assumption) | (with_reducible refine below_drewN ?_ _) | (with_reducible refine Below.alloc ?_ ?_ _) | (with_reducible refine Below.drew ?_) | (with_reducible refine Below.setCell ?_ ?_ _) | go_size))) hb; clear hb; have hc := hI.cell; have hf := hI.frozen; have hl0 := hI.lt_ (b := w.heap.size) (by simp only [World.size_alloc, World.size_setCell, World.size_drew, size_drewN]; omega); (try simp only [World.size_alloc, World.size_setCell, World.size_drew, size_drewN] at hc hf))
      go_quiet (fail)
      go_wp2
      go_ret
      refine ⟨by (rw [F.out]; try rfl), ?_⟩
      have hS := hI.bw
      (repeat' (first | (with_reducible exact Below.refl _ _) | (with_reducible assumption) | (with_reducible refine below_drewN ?_ _) | (with_reducible refine Below.alloc ?_ ?_ _) | (with_reducible refine Below.drew ?_) | (with_reducible refine Below.setCell ?_ ?_ _) | go_size))
      

end
end Go.Proofs.Ytjiidjcehhdnbaa

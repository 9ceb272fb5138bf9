/- Contracts of chapter 18's reference: operands, sends, strokes. -/
import Derived.Test.YtjiidjcehhdnbaaFW4
namespace Go.Proofs.Ytjiidjcehhdnbaa
open Go.ChangeShapes Go.WideShapes Go.ChangeAt Go.RowKit
set_option linter.unusedVariables false
set_option linter.unusedSimpArgs false
section
variable {w0 w : World} {LA : Option Addr} {ln lc : Nat} {CA : Option Addr} {cn cc : Nat} {L : Nat → LitR} {C : Nat → InsR} {s : ByteArray} {x0 x1 x2 : Int} {TA : Option Addr} {tn tc : Nat} {TF : Nat → Int} {FA : Option Addr} {fn fc : Nat} {FF : Nat → Int} {self : Int}

set_option maxHeartbeats 4000000 in
theorem ropnd_any (hM : IsM w0 LA ln CA cn L C) (hT : Words w0 TA tn TF) (hF : Words w0 FA fn FF) (hB : Below w0.heap.size w0 w) (p : Int) :
    Calls Try.prog 20 #[.agg #[.string s, .int .i64 x0, .int .i64 x1, .int .i64 x2, .slice LA ln lc, .slice CA cn cc], .int .i64 p, .int .i64 self, .slice TA tn tc, .slice FA fn fc] w fun e w' => e = .returned (.tuple #[.int .i64 (opndV ln L cn C self tn TF fn FF p).1, .bool (opndV ln L cn C self tn TF fn FF p).2]) ∧ Below w.heap.size w w' := by
  have hn := hM.cn_le
  have hln := hM.ln_le
  have htn := hT.le
  have hfn := hF.le
  have HV : Hid (smallV 0 = (1, true)) := rfl
  by_cases hin : 0 ≤ p ∧ p < cn
  · obtain ⟨k, rfl⟩ := Int.eq_ofNat_of_zero_le hin.1
    have hk : k < cn := by omega
    obtain ⟨b, off, rfl, hlt, c0, c1, c2⟩ := hM.ins hB hk
    have hi : insAt cn C (k : Int) = C k := if_pos hin
    obtain ⟨i, hC⟩ : ∃ i, C k = i := ⟨_, rfl⟩
    rw [hC] at c0 c1 c2 hi
    clear hC hin
    cases g1 : i.op == 1
    · cases g7 : i.op == 7
      · cases g8 : i.op == 8
        · cases g6 : i.op == 6
          · have F : Hid (opndV ln L cn C self tn TF fn FF k = (0, false)) := by show opndV ln L cn C self tn TF fn FF k = _; simp [opndV, isOp, hi, g1, g7, g8, g6]
            clear hi hM hT hF hB
            go_enter Try.func20, Try.ntmps20
            go_wp2_with (go_at_call 37; (with_reducible refine (rsmall_any _ _).mono ?_); rw [HV.out]; rintro e w' ⟨rfl, rfl⟩)
            go_ret2
            refine ⟨by rw [F.out]; rfl, ?_⟩
            (repeat' (first | (with_reducible exact Below.refl _ _) | (with_reducible refine below_drewN ?_ _) | (with_reducible refine Below.alloc ?_ ?_ _) | (with_reducible refine Below.drew ?_) | go_size))
            
          · by_cases ha : 0 ≤ i.a ∧ i.a < ln
            · obtain ⟨j, hj⟩ := Int.eq_ofNat_of_zero_le ha.1
              have hj' : j < ln := by omega
              obtain ⟨b', off', rfl, hlt', l0, l1, l2, l3⟩ := hM.lit hB hj'
              have hl : litAt ln L i.a = L j := by rw [hj]; rw [hj] at ha; exact if_pos ha
              obtain ⟨l, hL⟩ : ∃ l, L j = l := ⟨_, rfl⟩
              rw [hL] at l0 l1 l2 l3 hl
              clear hL
              obtain ⟨io, ia, ib⟩ := i
              obtain rfl : ia = j := hj
              clear ha
              cases k1 : l.kind == 1
              · have F : Hid (opndV ln L cn C self tn TF fn FF k = (0, false)) := by show opndV ln L cn C self tn TF fn FF k = _; simp [opndV, isOp, smallL, hi, hl, g1, g7, g8, g6, k1]
                clear hi hl hM hT hF hB
                go_enter Try.func20, Try.ntmps20
                go_wp2_with (go_at_call 37; (with_reducible refine (rsmall_any _ _).mono ?_); rw [HV.out]; rintro e w' ⟨rfl, rfl⟩)
                go_ret2
                refine ⟨by rw [F.out]; rfl, ?_⟩
                (repeat' (first | (with_reducible exact Below.refl _ _) | (with_reducible refine below_drewN ?_ _) | (with_reducible refine Below.alloc ?_ ?_ _) | (with_reducible refine Below.drew ?_) | go_size))
                
              · obtain ⟨⟨sv, si⟩, hs⟩ : ∃ t, smallV l.num = t := ⟨_, rfl⟩
                have HV := Lib.hid hs
                have F : Hid (opndV ln L cn C self tn TF fn FF k = (sv, si)) := by
                  show opndV ln L cn C self tn TF fn FF k = _
                  cases si
                  · have : sv = 0 := by
                      unfold smallV at hs; split at hs <;> simp at hs
                      exact hs.symm
                    subst this
                    simp [opndV, isOp, smallL, hi, hl, g1, g7, g8, g6, k1, hs]
                  · simp [opndV, isOp, smallL, hi, hl, g1, g7, g8, g6, k1, hs]
                clear hs hi hl hM hT hF hB
                go_enter Try.func20, Try.ntmps20
                go_wp2_with (go_at_call 37; (with_reducible refine (rsmall_any _ _).mono ?_); rw [HV.out]; rintro e w' ⟨rfl, rfl⟩)
                go_ret2
                refine ⟨by rw [F.out]; rfl, ?_⟩
                (repeat' (first | (with_reducible exact Below.refl _ _) | (with_reducible refine below_drewN ?_ _) | (with_reducible refine Below.alloc ?_ ?_ _) | (with_reducible refine Below.drew ?_) | go_size))
                
            · have F : Hid (opndV ln L cn C self tn TF fn FF k = (0, false)) := by
                show opndV ln L cn C self tn TF fn FF k = _
                have hl : litAt ln L i.a = noLit := if_neg ha
                simp [opndV, isOp, smallL, hi, hl, g1, g7, g8, g6, noLit]
              clear hi hM hT hF hB
              by_cases hneg : i.a < 0
              · have q1 : decide (0 ≤ i.a) = false := decide_eq_false (by omega)
                clear ha
                go_enter Try.func20, Try.ntmps20
                go_wp2_with (go_at_call 37; (with_reducible refine (rsmall_any _ _).mono ?_); rw [HV.out]; rintro e w' ⟨rfl, rfl⟩)
                go_ret2
                refine ⟨by rw [F.out]; rfl, ?_⟩
                (repeat' (first | (with_reducible exact Below.refl _ _) | (with_reducible refine below_drewN ?_ _) | (with_reducible refine Below.alloc ?_ ?_ _) | (with_reducible refine Below.drew ?_) | go_size))
                
              · have q1 : decide (0 ≤ i.a) = true := decide_eq_true (by omega)
                have q2 : decide (i.a < (ln : Int)) = false := decide_eq_false (by omega)
                clear ha
                go_enter Try.func20, Try.ntmps20
                go_wp2_with (go_at_call 37; (with_reducible refine (rsmall_any _ _).mono ?_); rw [HV.out]; rintro e w' ⟨rfl, rfl⟩)
                go_ret2
                refine ⟨by rw [F.out]; rfl, ?_⟩
                (repeat' (first | (with_reducible exact Below.refl _ _) | (with_reducible refine below_drewN ?_ _) | (with_reducible refine Below.alloc ?_ ?_ _) | (with_reducible refine Below.drew ?_) | go_size))
                
        · by_cases ha : 0 ≤ i.a ∧ i.a < fn
          · obtain ⟨j, hj⟩ := Int.eq_ofNat_of_zero_le ha.1
            have hj' : j < fn := by omega
            obtain ⟨b', off', rfl, hlt', l0⟩ := hF.at_ hB hj'
            obtain ⟨io, ia, ib⟩ := i
            obtain rfl : ia = j := hj
            have F : Hid (opndV ln L cn C self tn TF fn FF k = (FF j, true)) := by
              show opndV ln L cn C self tn TF fn FF k = _
              have : wordAt fn FF (j : Int) = FF j := if_pos ha
              simp [opndV, isOp, hi, g1, g7, g8, this]
            clear hi hM hT hF hB ha
            go_enter Try.func20, Try.ntmps20
            go_wp2_with (go_at_call 37; (with_reducible refine (rsmall_any _ _).mono ?_); rw [HV.out]; rintro e w' ⟨rfl, rfl⟩)
            go_ret2
            refine ⟨by rw [F.out]; rfl, ?_⟩
            (repeat' (first | (with_reducible exact Below.refl _ _) | (with_reducible refine below_drewN ?_ _) | (with_reducible refine Below.alloc ?_ ?_ _) | (with_reducible refine Below.drew ?_) | go_size))
            
          · have F : Hid (opndV ln L cn C self tn TF fn FF k = (0, true)) := by
              show opndV ln L cn C self tn TF fn FF k = _
              have : wordAt fn FF i.a = 0 := if_neg ha
              simp [opndV, isOp, hi, g1, g7, g8, this]
            clear hi hM hT hF hB
            by_cases hneg : i.a < 0
            · clear ha
              go_enter Try.func20, Try.ntmps20
              go_wp2_with (go_at_call 37; (with_reducible refine (rsmall_any _ _).mono ?_); rw [HV.out]; rintro e w' ⟨rfl, rfl⟩)
              go_ret2
              refine ⟨by rw [F.out]; rfl, ?_⟩
              (repeat' (first | (with_reducible exact Below.refl _ _) | (with_reducible refine below_drewN ?_ _) | (with_reducible refine Below.alloc ?_ ?_ _) | (with_reducible refine Below.drew ?_) | go_size))
              
            · have hge : (fn : Int) ≤ i.a := by omega
              clear ha
              go_enter Try.func20, Try.ntmps20
              go_wp2_with (go_at_call 37; (with_reducible refine (rsmall_any _ _).mono ?_); rw [HV.out]; rintro e w' ⟨rfl, rfl⟩)
              go_ret2
              refine ⟨by rw [F.out]; rfl, ?_⟩
              (repeat' (first | (with_reducible exact Below.refl _ _) | (with_reducible refine below_drewN ?_ _) | (with_reducible refine Below.alloc ?_ ?_ _) | (with_reducible refine Below.drew ?_) | go_size))
              
      · by_cases ha : 0 ≤ i.a ∧ i.a < tn
        · obtain ⟨j, hj⟩ := Int.eq_ofNat_of_zero_le ha.1
          have hj' : j < tn := by omega
          obtain ⟨b', off', rfl, hlt', l0⟩ := hT.at_ hB hj'
          obtain ⟨io, ia, ib⟩ := i
          obtain rfl : ia = j := hj
          have F : Hid (opndV ln L cn C self tn TF fn FF k = (TF j, true)) := by
            show opndV ln L cn C self tn TF fn FF k = _
            have : wordAt tn TF (j : Int) = TF j := if_pos ha
            simp [opndV, isOp, hi, g1, g7, this]
          clear hi hM hT hF hB ha
          go_enter Try.func20, Try.ntmps20
          go_wp2_with (go_at_call 37; (with_reducible refine (rsmall_any _ _).mono ?_); rw [HV.out]; rintro e w' ⟨rfl, rfl⟩)
          go_ret2
          refine ⟨by rw [F.out]; rfl, ?_⟩
          (repeat' (first | (with_reducible exact Below.refl _ _) | (with_reducible refine below_drewN ?_ _) | (with_reducible refine Below.alloc ?_ ?_ _) | (with_reducible refine Below.drew ?_) | go_size))
          
        · have F : Hid (opndV ln L cn C self tn TF fn FF k = (0, true)) := by
            show opndV ln L cn C self tn TF fn FF k = _
            have : wordAt tn TF i.a = 0 := if_neg ha
            simp [opndV, isOp, hi, g1, g7, this]
          clear hi hM hT hF hB
          by_cases hneg : i.a < 0
          · clear ha
            go_enter Try.func20, Try.ntmps20
            go_wp2_with (go_at_call 37; (with_reducible refine (rsmall_any _ _).mono ?_); rw [HV.out]; rintro e w' ⟨rfl, rfl⟩)
            go_ret2
            refine ⟨by rw [F.out]; rfl, ?_⟩
            (repeat' (first | (with_reducible exact Below.refl _ _) | (with_reducible refine below_drewN ?_ _) | (with_reducible refine Below.alloc ?_ ?_ _) | (with_reducible refine Below.drew ?_) | go_size))
            
          · have hge : (tn : Int) ≤ i.a := by omega
            clear ha
            go_enter Try.func20, Try.ntmps20
            go_wp2_with (go_at_call 37; (with_reducible refine (rsmall_any _ _).mono ?_); rw [HV.out]; rintro e w' ⟨rfl, rfl⟩)
            go_ret2
            refine ⟨by rw [F.out]; rfl, ?_⟩
            (repeat' (first | (with_reducible exact Below.refl _ _) | (with_reducible refine below_drewN ?_ _) | (with_reducible refine Below.alloc ?_ ?_ _) | (with_reducible refine Below.drew ?_) | go_size))
            
    · have F : Hid (opndV ln L cn C self tn TF fn FF k = (self, true)) := by show opndV ln L cn C self tn TF fn FF k = _; simp [opndV, isOp, hi, g1]
      clear hi hM hT hF hB
      go_enter Try.func20, Try.ntmps20
      go_wp2_with (go_at_call 37; (with_reducible refine (rsmall_any _ _).mono ?_); rw [HV.out]; rintro e w' ⟨rfl, rfl⟩)
      go_ret2
      refine ⟨by rw [F.out]; rfl, ?_⟩
      (repeat' (first | (with_reducible exact Below.refl _ _) | (with_reducible refine below_drewN ?_ _) | (with_reducible refine Below.alloc ?_ ?_ _) | (with_reducible refine Below.drew ?_) | go_size))
      
  · have F : Hid (opndV ln L cn C self tn TF fn FF p = (0, false)) := by
      show opndV ln L cn C self tn TF fn FF p = _
      have hi : insAt cn C p = noIns := if_neg hin
      simp [opndV, isOp, hi, noIns]
    clear hM hT hF hB
    by_cases hneg : p < 0
    · clear hin
      go_enter Try.func20, Try.ntmps20
      go_wp2_with (go_at_call 37; (with_reducible refine (rsmall_any _ _).mono ?_); rw [HV.out]; rintro e w' ⟨rfl, rfl⟩)
      go_ret2
      refine ⟨by rw [F.out]; rfl, ?_⟩
      (repeat' (first | (with_reducible exact Below.refl _ _) | (with_reducible refine below_drewN ?_ _) | (with_reducible refine Below.alloc ?_ ?_ _) | (with_reducible refine Below.drew ?_) | go_size))
      
    · have hge : (cn : Int) ≤ p := by omega
      clear hin
      go_enter Try.func20, Try.ntmps20
      go_wp2_with (go_at_call 37; (with_reducible refine (rsmall_any _ _).mono ?_); rw [HV.out]; rintro e w' ⟨rfl, rfl⟩)
      go_ret2
      refine ⟨by rw [F.out]; rfl, ?_⟩
      (repeat' (first | (with_reducible exact Below.refl _ _) | (with_reducible refine below_drewN ?_ _) | (with_reducible refine Below.alloc ?_ ?_ _) | (with_reducible refine Below.drew ?_) | go_size))
      

end
end Go.Proofs.Ytjiidjcehhdnbaa

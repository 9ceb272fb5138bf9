/- Chapter 10: a name, looked up. -/
import Derived.Test.YtnojndgmgkgnpaaCJ
namespace Go.Proofs.Ytnojndgmgkgnpaa
open Go.ChangeShapes Go.WideShapes Go.ChangeAt Go.RowKit Go.Deep Go.Joins Go.Maps
set_option linter.unusedVariables false
set_option linter.unusedSimpArgs false
theorem beq_no {l r : List UInt8} (h : (l == r) = false) : ¬ l = r := by intro e; rw [e, beq_self_eq_true] at h; cases h
/-- what a name that is no word of its own comes to -/
def varT (s : CSt) (n : ByteArray) : CSt := match findN s.names n with
 | some k => if k.kind = 1 then emitP s 8 k.at_ 0 else emitP s 7 k.at_ 0
 | none => if classN n then emitP (symP s n).2 9 (symP s n).1 0 else failP s n 15
theorem fail_code (s : CSt) (n : ByteArray) (x : Int) : (failP s n x).code = s.code := by unfold failP; split <;> rfl
theorem fail_lits (s : CSt) (n : ByteArray) (x : Int) : (failP s n x).lits = s.lits := by unfold failP; split <;> rfl
theorem place_code (s : CSt) (l : LitT) : (placeP s l).2.code = s.code := by unfold placeP; split <;> rfl
theorem sym_code (s : CSt) (t : ByteArray) : (symP s t).2.code = s.code := place_code s _
set_option maxRecDepth 100000 in
set_option maxHeartbeats 16000000 in
theorem variable_any {w0 w : World} {P : Nat → Prop} {cb : Nat} {m : MK} {s : CSt} (h : CX w0 P w cb m s) (n : ByteArray) (hn : n.size ≤ big63) (hf : s.code.length ≤ 1000000) (hl : s.lits.length ≤ 100000) : Calls Try.prog 57 #[.pointer (some ⟨cb, 0, none⟩), .string n] w fun e w' => e = .returned (.tuple #[]) ∧ CT w0 P w w' cb m (varP s n) := by
 have HH := Lib.hid h
 have HN := Lib.hid hn
 have HF0 := Lib.hid hf
 have HL0 := Lib.hid hl
 clear h hn hf hl
 cases q0 : n.toList == [115, 101, 108, 102] with
 | true =>
  rw [show varP s n = emitP s 1 0 0 from by unfold varP; rw [if_pos (show n.toList = bSelf from beq_iff_eq.1 q0)]]
  go_enter Try.func57, Try.ntmps57
  go_wp2_with (first | (go_at_call 45; (with_reducible refine (emit_any HH.out 1 0 0 HF0.out).mono ?_); rintro e w7 ⟨rfl, hx3⟩; have HY := Lib.hid hx3; clear hx3))
  go_returns
  exact ⟨rfl, HY.out⟩
 | false =>
  cases q1 : n.toList == [110, 105, 108] with
  | true =>
   rw [show varP s n = emitP s 2 0 0 from by unfold varP; rw [if_neg (show ¬ n.toList = bSelf from beq_no q0)]; rw [if_pos (show n.toList = bNil from beq_iff_eq.1 q1)]]
   go_enter Try.func57, Try.ntmps57
   go_wp2_with (first | (go_at_call 45; (with_reducible refine (emit_any HH.out 2 0 0 HF0.out).mono ?_); rintro e w7 ⟨rfl, hx3⟩; have HY := Lib.hid hx3; clear hx3))
   go_returns
   exact ⟨rfl, HY.out⟩
  | false =>
   cases q2 : n.toList == [116, 114, 117, 101] with
   | true =>
    rw [show varP s n = emitP s 3 0 0 from by unfold varP; rw [if_neg (show ¬ n.toList = bSelf from beq_no q0)]; rw [if_neg (show ¬ n.toList = bNil from beq_no q1)]; rw [if_pos (show n.toList = bTrue from beq_iff_eq.1 q2)]]
    go_enter Try.func57, Try.ntmps57
    go_wp2_with (first | (go_at_call 45; (with_reducible refine (emit_any HH.out 3 0 0 HF0.out).mono ?_); rintro e w7 ⟨rfl, hx3⟩; have HY := Lib.hid hx3; clear hx3))
    go_returns
    exact ⟨rfl, HY.out⟩
   | false =>
    cases q3 : n.toList == [102, 97, 108, 115, 101] with
    | true =>
     rw [show varP s n = emitP s 4 0 0 from by unfold varP; rw [if_neg (show ¬ n.toList = bSelf from beq_no q0)]; rw [if_neg (show ¬ n.toList = bNil from beq_no q1)]; rw [if_neg (show ¬ n.toList = bTrue from beq_no q2)]; rw [if_pos (show n.toList = bFalse from beq_iff_eq.1 q3)]]
     go_enter Try.func57, Try.ntmps57
     go_wp2_with (first | (go_at_call 45; (with_reducible refine (emit_any HH.out 4 0 0 HF0.out).mono ?_); rintro e w7 ⟨rfl, hx3⟩; have HY := Lib.hid hx3; clear hx3))
     go_returns
     exact ⟨rfl, HY.out⟩
    | false =>
     cases q4 : n.toList == [116, 104, 105, 115, 67, 111, 110, 116, 101, 120, 116] with
     | true =>
      rw [show varP s n = emitP s 5 0 0 from by unfold varP; rw [if_neg (show ¬ n.toList = bSelf from beq_no q0)]; rw [if_neg (show ¬ n.toList = bNil from beq_no q1)]; rw [if_neg (show ¬ n.toList = bTrue from beq_no q2)]; rw [if_neg (show ¬ n.toList = bFalse from beq_no q3)]; rw [if_pos (show n.toList = bContext from beq_iff_eq.1 q4)]]
      go_enter Try.func57, Try.ntmps57
      go_wp2_with (first | (go_at_call 45; (with_reducible refine (emit_any HH.out 5 0 0 HF0.out).mono ?_); rintro e w7 ⟨rfl, hx3⟩; have HY := Lib.hid hx3; clear hx3))
      go_returns
      exact ⟨rfl, HY.out⟩
     | false =>
      rw [show varP s n = varT (if n.toList = bSuper then failP s n 15 else s) n from by unfold varP; rw [if_neg (show ¬ n.toList = bSelf from beq_no q0)]; rw [if_neg (show ¬ n.toList = bNil from beq_no q1)]; rw [if_neg (show ¬ n.toList = bTrue from beq_no q2)]; rw [if_neg (show ¬ n.toList = bFalse from beq_no q3)]; rw [if_neg (show ¬ n.toList = bContext from beq_no q4)]; rfl]
      cases q5 : n.toList == [115, 117, 112, 101, 114] with
      | true =>
       rw [if_pos (show n.toList = bSuper from beq_iff_eq.1 q5)]
       have HF : Hid ((failP s n 15).code.length ≤ 1000000) := Lib.hid (by rw [fail_code]; exact HF0.out)
       have HL : Hid ((failP s n 15).lits.length ≤ 100000) := Lib.hid (by rw [fail_lits]; exact HL0.out)
       obtain ⟨o, ho⟩ : ∃ o, findN (failP s n 15).names n = o := ⟨_, rfl⟩
       cases o with
       | some k =>
        obtain ⟨kn, kk, ka⟩ := k
        have HFV : Hid (fndV (findN (failP s n 15).names n) = .tuple #[.agg #[.string kn, .bool (decide (kk = 1)), .bool (decide (kk = 3)), .int .i64 ka], .bool true]) := Lib.hid (by rw [ho]; rfl)
        rw [show varT (failP s n 15) n = (if kk = 1 then emitP (failP s n 15) 8 ka 0 else emitP (failP s n 15) 7 ka 0) from by unfold varT; rw [ho]]
        clear ho
        by_cases e1 : kk = 1
        ·rw [if_pos e1]
         have d1 : decide (kk = 1) = true := decide_eq_true e1
         clear e1
         go_enter Try.func57, Try.ntmps57
         go_wp2_with (first | (go_at_call 54; (with_reducible refine (fail_any HH.out n HN.out 15).mono ?_); rintro e w2 ⟨rfl, hx2⟩; have HX := Lib.hid hx2; clear hx2) | (go_at_call 52; (with_reducible refine (find_any (HX.out.below bel).1 n HN.out).mono ?_); rw [HFV.out]; rintro e w3 ⟨rfl, hb3⟩; have HX3 := Lib.hid ((HX.out.below (show Below w2.heap.size w2 _ from bel)).below hb3); clear hb3) | (go_at_call 45; (with_reducible refine (emit_at HX3.out bel 8 ka 0 HF.out).mono ?_); rintro e w7 ⟨rfl, hx3⟩; have HY := Lib.hid hx3; clear hx3))
         go_returns
         exact ⟨rfl, HY.out⟩
        ·rw [if_neg e1]
         have d1 : decide (kk = 1) = false := decide_eq_false e1
         clear e1
         go_enter Try.func57, Try.ntmps57
         go_wp2_with (first | (go_at_call 54; (with_reducible refine (fail_any HH.out n HN.out 15).mono ?_); rintro e w2 ⟨rfl, hx2⟩; have HX := Lib.hid hx2; clear hx2) | (go_at_call 52; (with_reducible refine (find_any (HX.out.below bel).1 n HN.out).mono ?_); rw [HFV.out]; rintro e w3 ⟨rfl, hb3⟩; have HX3 := Lib.hid ((HX.out.below (show Below w2.heap.size w2 _ from bel)).below hb3); clear hb3) | (go_at_call 45; (with_reducible refine (emit_at HX3.out bel 7 ka 0 HF.out).mono ?_); rintro e w7 ⟨rfl, hx3⟩; have HY := Lib.hid hx3; clear hx3))
         go_returns
         exact ⟨rfl, HY.out⟩
       | none =>
        have HFV : Hid (fndV (findN (failP s n 15).names n) = .tuple #[.agg #[.string eB, .bool false, .bool false, .int .i64 0], .bool false]) := Lib.hid (by rw [ho]; rfl)
        rw [show varT (failP s n 15) n = (if classN n then emitP (symP (failP s n 15) n).2 9 (symP (failP s n 15) n).1 0 else failP (failP s n 15) n 15) from by unfold varT; rw [ho]]
        clear ho
        obtain ⟨cl, hcl⟩ : ∃ cl, classN n = cl := ⟨_, rfl⟩
        rw [hcl]
        have HC := Lib.hid hcl
        clear hcl
        cases cl with
        | true =>
         rw [if_pos rfl]
         obtain ⟨g, hg⟩ : ∃ g, (symP (failP s n 15) n).1 = g := ⟨_, rfl⟩
         have HSY := Lib.hid hg
         rw [hg]
         have HF5 : Hid ((symP (failP s n 15) n).2.code.length ≤ 1000000) := Lib.hid (by rw [sym_code]; exact HF.out)
         clear hg
         go_enter Try.func57, Try.ntmps57
         go_wp2_with (first | (go_at_call 54; (with_reducible refine (fail_any HH.out n HN.out 15).mono ?_); rintro e w2 ⟨rfl, hx2⟩; have HX := Lib.hid hx2; clear hx2) | (go_at_call 52; (with_reducible refine (find_any (HX.out.below bel).1 n HN.out).mono ?_); rw [HFV.out]; rintro e w3 ⟨rfl, hb3⟩; have HX3 := Lib.hid ((HX.out.below (show Below w2.heap.size w2 _ from bel)).below hb3); clear hb3) | (go_at_call 69; (with_reducible refine (class_any n HN.out _).mono ?_); rw [HC.out]; rintro e w5 ⟨rfl, hw5⟩; replace hw5 := hw5.symm; subst hw5) | (go_at_call 70; (with_reducible refine (symbol_at HX3.out bel n HN.out HL.out).mono ?_); rw [HSY.out]; rintro e w5 ⟨rfl, hx3⟩; have HX5 := Lib.hid hx3; clear hx3) | (go_at_call 45; (with_reducible refine (emit_at HX5.out bel 9 (g : Int) 0 HF5.out).mono ?_); rintro e w7 ⟨rfl, hx3⟩; have HY := Lib.hid hx3; clear hx3))
         go_returns
         exact ⟨rfl, HY.out⟩
        | false =>
         rw [if_neg (by decide)]
         go_enter Try.func57, Try.ntmps57
         go_wp2_with (first | (go_at_call 54; (with_reducible refine (fail_any HH.out n HN.out 15).mono ?_); rintro e w2 ⟨rfl, hx2⟩; have HX := Lib.hid hx2; clear hx2) | (go_at_call 52; (with_reducible refine (find_any (HX.out.below bel).1 n HN.out).mono ?_); rw [HFV.out]; rintro e w3 ⟨rfl, hb3⟩; have HX3 := Lib.hid ((HX.out.below (show Below w2.heap.size w2 _ from bel)).below hb3); clear hb3) | (go_at_call 69; (with_reducible refine (class_any n HN.out _).mono ?_); rw [HC.out]; rintro e w5 ⟨rfl, hw5⟩; replace hw5 := hw5.symm; subst hw5) | (go_at_call 54; (with_reducible refine (fail_at HX3.out bel n HN.out 15).mono ?_); rintro e w7 ⟨rfl, hx3⟩; have HY := Lib.hid hx3; clear hx3))
         go_returns
         exact ⟨rfl, HY.out⟩
      | false =>
       rw [if_neg (show ¬ n.toList = bSuper from beq_no q5)]
       have HF : Hid ((s).code.length ≤ 1000000) := Lib.hid (HF0.out)
       have HL : Hid ((s).lits.length ≤ 100000) := Lib.hid (HL0.out)
       have HX := Lib.hid HH.out.ct
       obtain ⟨o, ho⟩ : ∃ o, findN (s).names n = o := ⟨_, rfl⟩
       cases o with
       | some k =>
        obtain ⟨kn, kk, ka⟩ := k
        have HFV : Hid (fndV (findN (s).names n) = .tuple #[.agg #[.string kn, .bool (decide (kk = 1)), .bool (decide (kk = 3)), .int .i64 ka], .bool true]) := Lib.hid (by rw [ho]; rfl)
        rw [show varT (s) n = (if kk = 1 then emitP (s) 8 ka 0 else emitP (s) 7 ka 0) from by unfold varT; rw [ho]]
        clear ho
        by_cases e1 : kk = 1
        ·rw [if_pos e1]
         have d1 : decide (kk = 1) = true := decide_eq_true e1
         clear e1
         go_enter Try.func57, Try.ntmps57
         go_wp2_with (first | (go_at_call 52; (with_reducible refine (find_any (HX.out.below bel).1 n HN.out).mono ?_); rw [HFV.out]; rintro e w3 ⟨rfl, hb3⟩; have HX3 := Lib.hid ((HX.out.below (show Below w.heap.size w _ from bel)).below hb3); clear hb3) | (go_at_call 45; (with_reducible refine (emit_at HX3.out bel 8 ka 0 HF.out).mono ?_); rintro e w7 ⟨rfl, hx3⟩; have HY := Lib.hid hx3; clear hx3))
         go_returns
         exact ⟨rfl, HY.out⟩
        ·rw [if_neg e1]
         have d1 : decide (kk = 1) = false := decide_eq_false e1
         clear e1
         go_enter Try.func57, Try.ntmps57
         go_wp2_with (first | (go_at_call 52; (with_reducible refine (find_any (HX.out.below bel).1 n HN.out).mono ?_); rw [HFV.out]; rintro e w3 ⟨rfl, hb3⟩; have HX3 := Lib.hid ((HX.out.below (show Below w.heap.size w _ from bel)).below hb3); clear hb3) | (go_at_call 45; (with_reducible refine (emit_at HX3.out bel 7 ka 0 HF.out).mono ?_); rintro e w7 ⟨rfl, hx3⟩; have HY := Lib.hid hx3; clear hx3))
         go_returns
         exact ⟨rfl, HY.out⟩
       | none =>
        have HFV : Hid (fndV (findN (s).names n) = .tuple #[.agg #[.string eB, .bool false, .bool false, .int .i64 0], .bool false]) := Lib.hid (by rw [ho]; rfl)
        rw [show varT (s) n = (if classN n then emitP (symP (s) n).2 9 (symP (s) n).1 0 else failP (s) n 15) from by unfold varT; rw [ho]]
        clear ho
        obtain ⟨cl, hcl⟩ : ∃ cl, classN n = cl := ⟨_, rfl⟩
        rw [hcl]
        have HC := Lib.hid hcl
        clear hcl
        cases cl with
        | true =>
         rw [if_pos rfl]
         obtain ⟨g, hg⟩ : ∃ g, (symP (s) n).1 = g := ⟨_, rfl⟩
         have HSY := Lib.hid hg
         rw [hg]
         have HF5 : Hid ((symP (s) n).2.code.length ≤ 1000000) := Lib.hid (by rw [sym_code]; exact HF.out)
         clear hg
         go_enter Try.func57, Try.ntmps57
         go_wp2_with (first | (go_at_call 52; (with_reducible refine (find_any (HX.out.below bel).1 n HN.out).mono ?_); rw [HFV.out]; rintro e w3 ⟨rfl, hb3⟩; have HX3 := Lib.hid ((HX.out.below (show Below w.heap.size w _ from bel)).below hb3); clear hb3) | (go_at_call 69; (with_reducible refine (class_any n HN.out _).mono ?_); rw [HC.out]; rintro e w5 ⟨rfl, hw5⟩; replace hw5 := hw5.symm; subst hw5) | (go_at_call 70; (with_reducible refine (symbol_at HX3.out bel n HN.out HL.out).mono ?_); rw [HSY.out]; rintro e w5 ⟨rfl, hx3⟩; have HX5 := Lib.hid hx3; clear hx3) | (go_at_call 45; (with_reducible refine (emit_at HX5.out bel 9 (g : Int) 0 HF5.out).mono ?_); rintro e w7 ⟨rfl, hx3⟩; have HY := Lib.hid hx3; clear hx3))
         go_returns
         exact ⟨rfl, HY.out⟩
        | false =>
         rw [if_neg (by decide)]
         go_enter Try.func57, Try.ntmps57
         go_wp2_with (first | (go_at_call 52; (with_reducible refine (find_any (HX.out.below bel).1 n HN.out).mono ?_); rw [HFV.out]; rintro e w3 ⟨rfl, hb3⟩; have HX3 := Lib.hid ((HX.out.below (show Below w.heap.size w _ from bel)).below hb3); clear hb3) | (go_at_call 69; (with_reducible refine (class_any n HN.out _).mono ?_); rw [HC.out]; rintro e w5 ⟨rfl, hw5⟩; replace hw5 := hw5.symm; subst hw5) | (go_at_call 54; (with_reducible refine (fail_at HX3.out bel n HN.out 15).mono ?_); rintro e w7 ⟨rfl, hx3⟩; have HY := Lib.hid hx3; clear hx3))
         go_returns
         exact ⟨rfl, HY.out⟩
theorem variable_at {w0 ws w1 w : World} {P : Nat → Prop} {cb : Nat} {m : MK} {s : CSt} (h : CT w0 P ws w1 cb m s) (hb : Below w1.heap.size w1 w) (n : ByteArray) (hn : n.size ≤ big63) (hf : s.code.length ≤ 1000000) (hl : s.lits.length ≤ 100000) : Calls Try.prog 57 #[.pointer (some ⟨cb, 0, none⟩), .string n] w fun e w' => e = .returned (.tuple #[]) ∧ CT w0 P ws w' cb m (varP s n) := by
 have h2 := h.below hb
 refine (variable_any h2.1 n hn hf hl).mono ?_
 rintro e w' ⟨he, hc⟩
 exact ⟨he, h2.go hc⟩
end Go.Proofs.Ytnojndgmgkgnpaa

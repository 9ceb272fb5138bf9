/- The law CompileLits of chapter 10 holds for every input: it returns true, and its arguments stay. No conditions. -/
import Derived.Test.YtnojndgmgkgnpaaRows
import Derived.Test.YtnojndgmgkgnpaaLV0
import Derived.Test.YtnojndgmgkgnpaaSL
import Derived.Test.YtnojndgmgkgnpaaLW
import Derived.Test.YtnojndgmgkgnpaaLPlain
import Derived.WalkKit
import Derived.ProofKit
import Derived.OpenShut
import Derived.ShutString
import Derived.ChangeOld
import Derived.ChangeMaps5
import Derived.LoopN
import Derived.WalkMore
import Derived.Deep.DeepCutAuto
import Derived.Deep.CutRange
import Derived.Deep.RegionLaw
import Derived.Deep.RegionHeld3
import Derived.Laws.IdiomStrings
import Derived.Below
namespace Go.Proofs.Ytnojndgmgkgnpaa.compileLits
open Go.ChangeShapes Go.WideShapes Go.ChangeAt Go.RowKit Go.Deep Go.Joins
set_option linter.unusedVariables false
set_option linter.unusedSimpArgs false

theorem own : ownKnob Try.prog.godebug = none := by kernel_rfl
theorem laidOut : laidOutB Try.prog = true := by kernel_rfl

set_option maxRecDepth 100000 in
set_option maxHeartbeats 40000000 in
theorem walk (w : World) (s0 : ByteArray) (z0 : s0.size ≤ 9223372036854775807) :
  Calls Try.prog 3 #[.string s0] w fun e w' => e = .returned (.bool true) ∧ Below w.heap.size w w' := by
 have zf := cut_le s0
 obtain ⟨s, hs⟩ : ∃ s, cut5 s0 = s := ⟨_, rfl⟩
 have HS := Lib.hid hs
 rw [hs] at zf
 obtain ⟨⟨x, a, er⟩, hr⟩ : ∃ r, read7 s false = r := ⟨_, rfl⟩
 have HRD : Hid (∀ W, Calls Try.prog 6 #[.string s, .bool false] W fun e w' => ∃ q, e = .returned (.tuple #[ndV x q, .int .i64 a, .int .i64 er]) ∧ Below W.heap.size W w' ∧ IsNd w' (fun _ => True) x q) := Lib.hid (fun W => read_no hr (by omega) W)
 have HSZ : Hid (x.size ≤ 100000) := Lib.hid (by have h1 := read7_size s false zf; rw [hr] at h1; exact h1)
 have HB : Hid (Below w.heap.size w w) := Lib.hid (Below.refl _ _)
 obtain ⟨b5, hb5⟩ : ∃ b, decide ((500 : Int) < (s0.size : Int)) = b := ⟨_, rfl⟩
 have hb6 : decide (500 < s0.size) = b5 := by rw [← hb5]; congr 1; apply propext; omega
 clear hs hr
 go_enter Try.func3, Try.ntmps3
 go_upto_if 17 with fail
 go_cut [0] (fun v0 wx => v0 = .string s ∧ wx = w)
 case first =>
  cases b5 with
  | true =>
   have h5 : 500 < s0.size := of_decide_eq_true hb6
   have b1 : (500 : Int) ≤ (s0.size : Int) := by omega
   have b2 : 500 ≤ s0.size := by omega
   have e9 : s0.extract 0 500 = s := by rw [← HS.out]; unfold cut5; rw [if_pos h5]
   clear h5
   go_wp2_with fail
   go_meet
   exact ⟨by rw [← e9], rfl⟩
  | false =>
   have e9 : s0 = s := by rw [← HS.out]; unfold cut5; rw [if_neg (of_decide_eq_false hb6)]
   go_wp2_with fail
   go_meet
   exact ⟨by rw [← e9], rfl⟩
 case rest =>
  obtain ⟨rfl, hw'⟩ := hcut
  replace hw' := hw'.symm
  subst hw'
  clear hb5 hb6
  by_cases he : er = 0
  ·subst he
   go_upto_region 4 with (first | (go_at_call 6; (with_reducible refine (HRD.out _).mono ?_); rintro e w1 ⟨q, rfl, hb9, hn9⟩; unfold ndV; have HBn := Lib.hid (HB.out.trans ((hb9).mono HB.out.size)); clear HB; have HB := HBn; clear HBn; have HN := Lib.hid hn9; clear hb9 hn9))
   have hal := (Below.refl w1.heap.size w1).alloc (Nat.le_refl _) (.cells #[.int .i64 x.kind, .string x.text, .int .i64 x.num, .slice q.pn x.names.length q.cn, .slice q.pt x.temps.length q.ct, .slice q.pk x.kids.length q.ck] 25)
   have hbx := heap_alloc_new w1 (.cells #[.int .i64 x.kind, .string x.text, .int .i64 x.num, .slice q.pn x.names.length q.cn, .slice q.pt x.temps.length q.ct, .slice q.pk x.kids.length q.ck] 25)
   obtain ⟨w2, hwe⟩ : ∃ z, w1.alloc (.cells #[.int .i64 x.kind, .string x.text, .int .i64 x.num, .slice q.pn x.names.length q.cn, .slice q.pt x.temps.length q.ct, .slice q.pk x.kids.length q.ck] 25) = z := ⟨_, rfl⟩
   rw [hwe] at hal hbx ⊢
   have hn9 := HN.out.under hal
   have HBn := Lib.hid (HB.out.trans ((hal).mono HB.out.size)); clear HB; have HB := HBn; clear HBn
   clear HN hwe hal HRD
   have HN := Lib.hid hn9
   obtain ⟨a0, a1, a2, a3, a4, a5⟩ := cc6 (hbx)
   clear hn9
   obtain ⟨⟨m, nm, fe⟩, hm⟩ : ∃ r, readC x.size x [] true = r := ⟨_, rfl⟩
   have HMR := Lib.hid hm
   have HM : Hid (∀ W, Below w2.heap.size w2 W → Calls Try.prog 8 #[.agg #[.int .i64 x.kind, .string x.text, .int .i64 x.num, .slice q.pn x.names.length q.cn, .slice q.pt x.temps.length q.ct, .slice q.pk x.kids.length q.ck]] W (MetP m nm fe W)) := Lib.hid (fun W hW => (doit_any (HN.out.under hW) HSZ.out).mono (fun e w' h => by rw [hm] at h; exact h.met))
   clear hm
   go_upto_region 7 with (first | (go_at_call 8; (with_reducible refine (HM.out _ bel).mono ?_); rintro e w3c ⟨Al, nl, cl, Ac, nc, cc, D, ps, rfl, hl1, hl2, hl3, hl4, hl5, hl6, htd, hb9⟩; have hs9 := ((show Below w2.heap.size w2 _ from bel).trans (hb9.mono (show Below w2.heap.size w2 _ from bel).size)); have HBn := Lib.hid (HB.out.trans ((hs9).mono HB.out.size)); clear HB; have HB := HBn; clear HBn; have HL1 := Lib.hid hl1; have HL2 := Lib.hid hl2; have HLC : Hid (nl ≤ cl ∧ cl ≤ maxLen ∧ nc ≤ cc ∧ cc ≤ maxLen) := Lib.hid ⟨hl3, hl4, hl5, hl6⟩; have HTD := Lib.hid htd; have HX9 := Lib.hid hs9; clear hl1 hl2 hl3 hl4 hl5 hl6 htd hb9 hs9))
   clear HM
   have hal := (Below.refl w3c.heap.size w3c).alloc (Nat.le_refl _) (.cells #[.string m.sel, .int .i64 (m.args : Int), .int .i64 (m.temps : Int), .int .i64 m.prim, .slice Al nl cl, .slice Ac nc cc] 33)
   have hbm := heap_alloc_new w3c (.cells #[.string m.sel, .int .i64 (m.args : Int), .int .i64 (m.temps : Int), .int .i64 m.prim, .slice Al nl cl, .slice Ac nc cc] 33)
   have hc9 := Tx.code_kept (HTD.out.codeOf HL2.out) hal
   have hl9 := HTD.out.lits.same hal.size (fun k hk => hal.block k (World.ownsRow.lt HTD.out.lits.own k hk).2) (fun b _ hl => hal.block b hl) (fun _ z => z)
   have hps := HTD.out.lps
   have hn9 := HN.out.under (HX9.out.trans (hal.mono HX9.out.size))
   have hx9 := ((HX9.out.trans (hal.mono HX9.out.size)).block _ (lt_of_block hbx)).trans hbx
   obtain ⟨w3, hwe⟩ : ∃ z, w3c.alloc (.cells #[.string m.sel, .int .i64 (m.args : Int), .int .i64 (m.temps : Int), .int .i64 m.prim, .slice Al nl cl, .slice Ac nc cc] 33) = z := ⟨_, rfl⟩
   rw [hwe] at hal hbm hc9 hl9 hn9 hx9 ⊢
   have HBn := Lib.hid (HB.out.trans ((hal).mono HB.out.size)); clear HB; have HB := HBn; clear HBn
   clear HN hwe hal HX9 hbx a0 a1 a2 a3 a4 a5 HTD
   have HN := Lib.hid hn9
   have HBX := Lib.hid hx9
   have HC := Lib.hid hc9
   have HLR := Lib.hid hl9
   have HPS := Lib.hid hps
   have HBM := Lib.hid hbm
   obtain ⟨b0, b1, b2, b3, b4, b5⟩ := cc6 (hbm)
   clear hn9 hx9 hc9 hl9 hps hbm
   by_cases hf : fe = 0
   ·subst hf
    have HMET := Lib.hid (readC_met HMR.out)
    have hcl : nc ≤ 400 := by rw [← HL2.out]; exact HMET.out.code
    go_wp2_with fail
    go_loopw [9, 10] (fun v i wr => ∃ k nx : Nat, i = .int .i64 k ∧ k ≤ nc ∧ v = .int .i64 nx ∧ scanC (m.code.take k) 0 = some nx ∧ nx ≤ k ∧ wr = w3) (fun _ i _ => nc - (intOf i).toNat)
    case atStart => exact ⟨0, 0, rfl, Nat.zero_le _, rfl, rfl, Nat.le_refl _, rfl⟩
    case round =>
     obtain ⟨k, nx, rfl, hk, rfl, hsc, hnk, hw'⟩ := hrel
     replace hw' := hw'.symm
     subst hw'
     by_cases hlt : k < nc
     ·have d1 : decide (k < nc) = true := decide_eq_true hlt
      have d2 : decide ((k : Int) < (nc : Int)) = true := decide_eq_true (by omega)
      have hkl : k < m.code.length := by rw [HL2.out]; exact hlt
      obtain ⟨cb, co, hca, hcb, c0, c1, c2⟩ := HC.out.at_ (Below.refl _ _) hlt
      have hst := scan_step HMET.out.scan hkl hsc
      obtain ⟨ii, hii⟩ : ∃ z, m.code[k] = z := ⟨_, rfl⟩
      have hcd : codeF m.code k = ii := by unfold codeF; rw [List.getD_eq_getElem?_getD, List.getElem?_eq_getElem hkl, ← hii]; rfl
      rw [hii] at hst
      rw [hcd] at c0 c1 c2
      obtain ⟨io, hop⟩ : ∃ z, ii.op = z := ⟨_, rfl⟩
      obtain ⟨ia, hia⟩ : ∃ z, ii.a = z := ⟨_, rfl⟩
      rw [hop] at c0
      rw [hia] at c1
      have HST := Lib.hid hst
      subst hca
      have g0 : (0 : Int) ≤ (k : Int) := by omega
      have g1 : (k : Int) < (nc : Int) := by omega
      have hsum : IntKind.i64.wrap ((nx : Int) + 1) = (nx : Int) + 1 := IntWalk.i64_in _ (by omega)
      clear hst hii hcd hkl
      cases g6 : (io == 6) with
      | true =>
       have hlo : litOp ii.op = true := by unfold litOp; rw [hop]; simp [g6]
       have h1 := HST.out.1 hlo
       rw [hia] at h1
       have d3 : decide ((nx : Int) < ia) = false := decide_eq_false h1
       have d4 : ¬ (nx : Int) < ia := h1
       by_cases e4 : ia = (nx : Int)
       ·have d5 : (ia == (nx : Int)) = true := by simpa using e4
        have HNX : Hid (scanC (m.code.take (k + 1)) 0 = some (nx + 1)) := Lib.hid (by have h9 := HST.out.2; rw [if_pos ⟨hlo, by rw [hia]; exact e4⟩] at h9; exact h9)
        clear h1 hlo e4
        go_wp2_with fail
        go_roundw
        case rel => exact ⟨k + 1, nx + 1, by go_num, by omega, by go_num, HNX.out, by omega, (by first | rfl | trivial)⟩
        case measure => simp [intOf]; omega
       ·have d5 : (ia == (nx : Int)) = false := by simpa using e4
        have HNX : Hid (scanC (m.code.take (k + 1)) 0 = some nx) := Lib.hid (by have h9 := HST.out.2; rw [if_neg (fun z => e4 (by rw [← hia]; exact z.2))] at h9; exact h9)
        clear h1 hlo e4
        go_wp2_with fail
        go_roundw
        case rel => exact ⟨k + 1, nx, by go_num, by omega, by go_num, HNX.out, by omega, (by first | rfl | trivial)⟩
        case measure => simp [intOf]; omega
      | false =>
       cases g9 : (io == 9) with
       | true =>
        have hlo : litOp ii.op = true := by unfold litOp; rw [hop]; simp [g6, g9]
        have h1 := HST.out.1 hlo
        rw [hia] at h1
        have d3 : decide ((nx : Int) < ia) = false := decide_eq_false h1
        have d4 : ¬ (nx : Int) < ia := h1
        by_cases e4 : ia = (nx : Int)
        ·have d5 : (ia == (nx : Int)) = true := by simpa using e4
         have HNX : Hid (scanC (m.code.take (k + 1)) 0 = some (nx + 1)) := Lib.hid (by have h9 := HST.out.2; rw [if_pos ⟨hlo, by rw [hia]; exact e4⟩] at h9; exact h9)
         clear h1 hlo e4
         go_wp2_with fail
         go_roundw
         case rel => exact ⟨k + 1, nx + 1, by go_num, by omega, by go_num, HNX.out, by omega, (by first | rfl | trivial)⟩
         case measure => simp [intOf]; omega
        ·have d5 : (ia == (nx : Int)) = false := by simpa using e4
         have HNX : Hid (scanC (m.code.take (k + 1)) 0 = some nx) := Lib.hid (by have h9 := HST.out.2; rw [if_neg (fun z => e4 (by rw [← hia]; exact z.2))] at h9; exact h9)
         clear h1 hlo e4
         go_wp2_with fail
         go_roundw
         case rel => exact ⟨k + 1, nx, by go_num, by omega, by go_num, HNX.out, by omega, (by first | rfl | trivial)⟩
         case measure => simp [intOf]; omega
       | false =>
        cases g14 : (io == 14) with
        | true =>
         have hlo : litOp ii.op = true := by unfold litOp; rw [hop]; simp [g6, g9, g14]
         have h1 := HST.out.1 hlo
         rw [hia] at h1
         have d3 : decide ((nx : Int) < ia) = false := decide_eq_false h1
         have d4 : ¬ (nx : Int) < ia := h1
         by_cases e4 : ia = (nx : Int)
         ·have d5 : (ia == (nx : Int)) = true := by simpa using e4
          have HNX : Hid (scanC (m.code.take (k + 1)) 0 = some (nx + 1)) := Lib.hid (by have h9 := HST.out.2; rw [if_pos ⟨hlo, by rw [hia]; exact e4⟩] at h9; exact h9)
          clear h1 hlo e4
          go_wp2_with fail
          go_roundw
          case rel => exact ⟨k + 1, nx + 1, by go_num, by omega, by go_num, HNX.out, by omega, (by first | rfl | trivial)⟩
          case measure => simp [intOf]; omega
         ·have d5 : (ia == (nx : Int)) = false := by simpa using e4
          have HNX : Hid (scanC (m.code.take (k + 1)) 0 = some nx) := Lib.hid (by have h9 := HST.out.2; rw [if_neg (fun z => e4 (by rw [← hia]; exact z.2))] at h9; exact h9)
          clear h1 hlo e4
          go_wp2_with fail
          go_roundw
          case rel => exact ⟨k + 1, nx, by go_num, by omega, by go_num, HNX.out, by omega, (by first | rfl | trivial)⟩
          case measure => simp [intOf]; omega
        | false =>
         cases g15 : (io == 15) with
         | true =>
          have hlo : litOp ii.op = true := by unfold litOp; rw [hop]; simp [g6, g9, g14, g15]
          have h1 := HST.out.1 hlo
          rw [hia] at h1
          have d3 : decide ((nx : Int) < ia) = false := decide_eq_false h1
          have d4 : ¬ (nx : Int) < ia := h1
          by_cases e4 : ia = (nx : Int)
          ·have d5 : (ia == (nx : Int)) = true := by simpa using e4
           have HNX : Hid (scanC (m.code.take (k + 1)) 0 = some (nx + 1)) := Lib.hid (by have h9 := HST.out.2; rw [if_pos ⟨hlo, by rw [hia]; exact e4⟩] at h9; exact h9)
           clear h1 hlo e4
           go_wp2_with fail
           go_roundw
           case rel => exact ⟨k + 1, nx + 1, by go_num, by omega, by go_num, HNX.out, by omega, (by first | rfl | trivial)⟩
           case measure => simp [intOf]; omega
          ·have d5 : (ia == (nx : Int)) = false := by simpa using e4
           have HNX : Hid (scanC (m.code.take (k + 1)) 0 = some nx) := Lib.hid (by have h9 := HST.out.2; rw [if_neg (fun z => e4 (by rw [← hia]; exact z.2))] at h9; exact h9)
           clear h1 hlo e4
           go_wp2_with fail
           go_roundw
           case rel => exact ⟨k + 1, nx, by go_num, by omega, by go_num, HNX.out, by omega, (by first | rfl | trivial)⟩
           case measure => simp [intOf]; omega
         | false =>
          have hlo : litOp ii.op = false := by unfold litOp; rw [hop]; simp [g6, g9, g14, g15]
          have HNX : Hid (scanC (m.code.take (k + 1)) 0 = some nx) := Lib.hid (by have h9 := HST.out.2; rw [if_neg (fun z => by rw [hlo] at z; cases z.1)] at h9; exact h9)
          clear hlo
          go_wp2_with fail
          go_roundw
          case rel => exact ⟨k + 1, nx, by go_num, by omega, by go_num, HNX.out, by omega, (by first | rfl | trivial)⟩
          case measure => simp [intOf]; omega
     ·have hkn : k = nc := by omega
      have d1 : decide (k < nc) = false := decide_eq_false hlt
      have d2 : decide ((k : Int) < (nc : Int)) = false := decide_eq_false (by omega)
      have hnx : nx = nl := by
       rw [← HL1.out]
       refine scan_all HMET.out.scan ?_
       rw [hkn, ← HL2.out] at hsc
       exact hsc
      subst hnx
      have hn60 : nx ≤ 60 := by rw [← HL1.out]; exact HMET.out.lits
      clear hlt hsc hnk hk hkn
      go_wp2_with fail
      go_loopw [12] (fun i wr => ∃ k : Nat, i = .int .i64 k ∧ k ≤ nx ∧ Below w3.heap.size w3 wr) (fun i _ => nx - (intOf i).toNat)
      case atStart => exact ⟨0, rfl, Nat.zero_le _, Below.refl _ _⟩
      case round =>
       obtain ⟨k, rfl, hk, hbr⟩ := hrel
       have HBR := Lib.hid hbr
       have hm9 := (hbr.block _ (lt_of_block HBM.out)).trans HBM.out
       clear b0 b1 b2 b3 b4 b5
       obtain ⟨b0, b1, b2, b3, b4, b5⟩ := cc6 (hm9)
       clear hm9 hbr
       by_cases hlt : k < nx
       ·have d1 : decide (k < nx) = true := decide_eq_true hlt
        have d2 : decide ((k : Int) < (nx : Int)) = true := decide_eq_true (by omega)
        go_wp2_with fail
        clear b0 b1 b2 b3 b4 b5
        go_loopw [13] (fun j wq => ∃ i : Nat, j = .int .i64 i ∧ i ≤ k ∧ Below w3.heap.size w3 wq) (fun j _ => k - (intOf j).toNat)
        case atStart => exact ⟨0, rfl, Nat.zero_le _, HBR.out⟩
        case round =>
         obtain ⟨i, rfl, hi, hbr⟩ := hrel
         clear HBR
         have HBR := Lib.hid hbr
         have hm9 := (hbr.block _ (lt_of_block HBM.out)).trans HBM.out
         obtain ⟨b0, b1, b2, b3, b4, b5⟩ := cc6 (hm9)
         clear hm9
         by_cases hit : i < k
         ·have d3 : decide (i < k) = true := decide_eq_true hit
          have d4 : decide ((i : Int) < (k : Int)) = true := decide_eq_true (by omega)
          have hpl : ps.length = nx := by rw [← HL1.out]; have h9 := congrArg List.length HPS.out; rw [List.length_map] at h9; exact h9
          have hkp : k < ps.length := by omega
          have hip : i < ps.length := by omega
          obtain ⟨lb, lc, cur, hv1, _, hh1, hc1⟩ := HLR.out.at_ hkp
          obtain ⟨lb2, lc2, cur2, hv2, _, hh2, hc2⟩ := HLR.out.at_ hip
          have e2 : lb2 = lb := by rw [hv1] at hv2; cases hv2; rfl
          subst e2
          have e3 : Al = some ⟨lb2, 0, none⟩ := by cases hv1; rfl
          have HLB : Hid (lb2 < wr.heap.size) := Lib.hid (Nat.lt_of_lt_of_le (lt_of_block hh1) hbr.size)
          have hlb := HLB.out
          have hc1' := hc1.same (hbr.block _ (lt_of_block hh1))
          have hc2' := hc2.same (hbr.block _ (lt_of_block hh1))
          have hl1 := HLR.out.lits _ (List.getElem_mem hkp)
          have hl2 := HLR.out.lits _ (List.getElem_mem hip)
          have hsf : sameL ps[k].1 ps[i].1 = false := by
           have h9 := dis_facts HMET.out.dis (i := k) (k := i) (by rw [HL1.out]; exact hlt) hit
           have g1 : m.lits[k]'(by rw [HL1.out]; exact hlt) = ps[k].1 := by have h8 := HPS.out; simp only [← h8, List.getElem_map]
           have g2 : m.lits[i]'(by rw [HL1.out]; omega) = ps[i].1 := by have h8 := HPS.out; simp only [← h8, List.getElem_map]
           rw [g1, g2] at h9
           exact h9
          obtain ⟨⟨xa, qa⟩, hxa⟩ : ∃ y, ps[k] = y := ⟨_, rfl⟩
          obtain ⟨⟨xb, qb⟩, hxb⟩ : ∃ y, ps[i] = y := ⟨_, rfl⟩
          rw [hxa] at hc1' hl1 hsf
          rw [hxb] at hc2' hl2 hsf
          have hW : ∀ W', Below wr.heap.size wr W' → Calls Try.prog 9 #[ltV xa qa, ltV xb qb] W' fun e w' => e = .returned (.bool false) ∧ Below wr.heap.size wr w' := fun W' hW => (rsame_any hl1 W' _ _ _ (hbr.trans (hW.mono hbr.size)) (hl2.under (hbr.trans (hW.mono hbr.size)))).mono (fun e w' ⟨he, hb⟩ => ⟨by rw [he, hsf], hW.trans (hb.mono hW.size)⟩)
          unfold ltV at hW
          have HSM := Lib.hid hW
          obtain ⟨e10, e11, e12, e13⟩ := hc1'
          obtain ⟨e20, e21, e22, e23⟩ := hc2'
          dsimp only at e10 e11 e12 e13 e20 e21 e22 e23
          subst e3
          have g0 : (0 : Int) ≤ (k : Int) := by omega
          have g1 : (k : Int) < (nx : Int) := by omega
          have g2 : (0 : Int) ≤ (i : Int) := by omega
          have g3 : (i : Int) < (nx : Int) := by omega
          clear hpl hkp hip hv1 hv2 hh1 hh2 hc1 hc2 hl1 hl2 hsf hxa hxb hW hbr
          go_upto_region 25 with fail
          go_region_law (first | (go_simp; go_at_call 9; (with_reducible refine (HSM.out _ bel).mono ?_); rintro e w5 ⟨rfl, hb5⟩; have HB5 := Lib.hid hb5; clear hb5))
          all_goals
           go_wp2_with fail
           go_roundw
           case rel => exact ⟨i + 1, by go_num, by omega, HBR.out.trans (HB5.out.mono HBR.out.size)⟩
           case measure => simp [intOf]; omega
         ·have hik : i = k := by omega
          have d3 : decide (i < k) = false := decide_eq_false hit
          have d4 : decide ((i : Int) < (k : Int)) = false := decide_eq_false (by omega)
          clear hit hbr
          go_wp2_with fail
          go_roundw
          case rel => exact ⟨k + 1, by go_num, by omega, HBR.out⟩
          case measure => simp [intOf]; omega
       ·have hkn : k = nx := by omega
        have d1 : decide (k < nx) = false := decide_eq_false hlt
        have d2 : decide ((k : Int) < (nx : Int)) = false := decide_eq_false (by omega)
        clear hlt hk hkn
        have HBn := Lib.hid (HB.out.trans ((HBR.out).mono HB.out.size)); clear HB; have HB := HBn; clear HBn
        go_wp2_with (first | (go_at_call 7; (with_reducible refine (lives_any _).mono ?_); rintro e w9 ⟨rfl, hb9⟩; have HF := Lib.hid (HB.out.trans (((show Below wr.heap.size wr _ from bel).trans (hb9.mono (show Below wr.heap.size wr _ from bel).size)).mono HB.out.size)); clear hb9))
        go_ret
        exact ⟨rfl, HF.out⟩
   ·have HNO := Lib.hid (readC_no HMR.out hf)
    have x1 : (fe != 0) = true := by simpa using hf
    have x2 : (fe == 0) = false := by simpa using hf
    clear hf
    have hn0 : nl = 0 := by rw [← HL1.out, HNO.out]; rfl
    have hn1 : nc = 0 := by rw [← HL2.out, HNO.out]; rfl
    subst hn0
    subst hn1
    go_wp2_with (first | (go_at_call 7; (with_reducible refine (lives_any _).mono ?_); rintro e w9 ⟨rfl, hb9⟩; have HF := Lib.hid (HB.out.trans (((show Below w3.heap.size w3 _ from bel).trans (hb9.mono (show Below w3.heap.size w3 _ from bel).size)).mono HB.out.size)); clear hb9))
    go_ret
    exact ⟨rfl, HF.out⟩
  ·have x1 : (er != 0) = true := by simpa using he
   have x2 : (er == 0) = false := by simpa using he
   clear he
   go_wp2_with (first | (go_at_call 6; (with_reducible refine (HRD.out _).mono ?_); rintro e w1 ⟨q, rfl, hb9, hn9⟩; unfold ndV; have HBn := Lib.hid (HB.out.trans ((hb9).mono HB.out.size)); clear HB; have HB := HBn; clear HBn; have HN := Lib.hid hn9; clear hb9 hn9) | (go_at_call 7; (with_reducible refine (lives_any _).mono ?_); rintro e w9 ⟨rfl, hb9⟩; have HF := Lib.hid (HB.out.trans (((show Below w1.heap.size w1 _ from bel).trans (hb9.mono (show Below w1.heap.size w1 _ from bel).size)).mono HB.out.size)); clear hb9))
   go_ret
   exact ⟨rfl, HF.out⟩

/-! ### the row's step -/
set_option maxRecDepth 100000 in
theorem lifted (os : Os) (started : os.Started) (H : Type) (enc : TypeId × Value → H) :
  ReturnsInHanded {} Try.checked os 3 .any (Rows.compileLitsSpec.pre6 enc Try.prog Try.f3 Rows.compileLitsRow.domain false) (Rows.compileLitsSpec.post enc Try.prog Try.f3 false true false false) := by
 refine returnsInHanded_of_change (C := Try.checked) own started (by kernel_rfl) Try.func3
  (ChangeSpec.witness6 (enc := enc) (C := Try.checked) false ⟨#[], #[.string ⟨#[]⟩], []⟩ 8 (by kernel_rfl) (by kernel_rfl) (by kernel_rfl) (by kernel_rfl)) ?_
 intro W base args ds gs before hval0 hW hcnd _
 have hval : ∀ (j : Nat) t v, Try.f3.params[j]? = some t → args[j]? = some v → Value.okWide Try.prog W .any base t v := hval0
 have hW' := hW
 obtain ⟨p, q, hA0, hV, rfl, hfz, hnd⟩ := hW
 have hA : DataW.TrodAll enc Try.prog W 0 (fun _ => true) true Try.f3.params.toList args.toList ds p := hA0
 rw [Try.params3] at hA hval
 obtain ⟨v0, vs0, d0, ds0, p0, q0, hargs, rfl, rfl, h0, r0⟩ := trodAll_cons hA
 obtain ⟨rfl, rfl, rfl⟩ := trodAll_nil r0
 obtain rfl : args = #[v0] := by cases args; simp_all
 obtain ⟨rfl, rfl⟩ := trodVars_none hV
 obtain ⟨s0, rfl, rfl, rfl, z0⟩ := Go.ChangeMaps.open_string Try.underlying9 (hval 0 9 v0 rfl rfl) h0
 clear hA0 hval0
 refine (walk W _ (by have := z0; unfold maxLen at this; exact this)).mono fun e W' ⟨he, bel⟩ => ?_
 subst he
 exact ⟨_, rfl, _, _, _, [], _, [], hW', trodAll_mk1 (shut_bool Try.underlying4 _), (trodAll_cons_mk (Go.ChangeMaps.shut_string Try.underlying9 z0) trodAll_mk0), rfl, bel.frame _, fun h => by cases h⟩

theorem over : Rows.compileLitsRow.holds Try.pinned (OpenSpec.ofChange Rows.compileLitsSpec) :=
 OpenClaim.holds_of_wide 3 Try.f3 rfl rfl rfl rfl rfl rfl rfl ⟨rfl, rfl, rfl, rfl, rfl⟩ rfl rfl rfl rfl rfl (by kernel_rfl) Try.func3 (by kernel_rfl)
  (of_decide_eq_true (by kernel_rfl)) (by unfold Func.isWrapper; first | (rw [if_pos (by decide +kernel)]; kernel_rfl) | (rw [if_neg (by decide +kernel)]; exact ⟨rfl, rfl⟩))
  (fun os started H enc _ => lifted os started H enc)

theorem proved : Rows.CompileLitsSaid := over
end Go.Proofs.Ytnojndgmgkgnpaa.compileLits

/- The law CompileJumps of chapter 10 holds for every input: it returns true, and its arguments stay. No conditions. -/
import Derived.Test.YtnojndgmgkgnpaaRows
import Derived.Test.YtnojndgmgkgnpaaLV0
import Derived.Test.YtnojndgmgkgnpaaLW
import Derived.Test.YtnojndgmgkgnpaaLPlain
import Derived.WalkKit
import Derived.ProofKit
import Derived.OpenShut
import Derived.ShutString
import Derived.ChangeOld
import Derived.ChangeMaps5
import Derived.LoopN
import Derived.WalkMore
import Derived.Deep.DeepCutAuto
import Derived.Deep.CutRange
import Derived.Deep.RegionLaw
import Derived.Deep.RegionHeld3
import Derived.Laws.IdiomStrings
import Derived.Below
namespace Go.Proofs.Ytnojndgmgkgnpaa.compileJumps
open Go.ChangeShapes Go.WideShapes Go.ChangeAt Go.RowKit Go.Deep Go.Joins
set_option linter.unusedVariables false
set_option linter.unusedSimpArgs false

theorem own : ownKnob Try.prog.godebug = none := by kernel_rfl
theorem laidOut : laidOutB Try.prog = true := by kernel_rfl

set_option maxRecDepth 100000 in
set_option maxHeartbeats 40000000 in
theorem walk (w : World) (s0 : ByteArray) (z0 : s0.size ≤ 9223372036854775807) :
  Calls Try.prog 4 #[.string s0] w fun e w' => e = .returned (.bool true) ∧ Below w.heap.size w w' := by
 have zf := cut_le s0
 obtain ⟨s, hs⟩ : ∃ s, cut5 s0 = s := ⟨_, rfl⟩
 have HS := Lib.hid hs
 rw [hs] at zf
 obtain ⟨⟨x, a, er⟩, hr⟩ : ∃ r, read7 s false = r := ⟨_, rfl⟩
 have HRD : Hid (∀ W, Calls Try.prog 6 #[.string s, .bool false] W fun e w' => ∃ q, e = .returned (.tuple #[ndV x q, .int .i64 a, .int .i64 er]) ∧ Below W.heap.size W w' ∧ IsNd w' (fun _ => True) x q) := Lib.hid (fun W => read_no hr (by omega) W)
 have HSZ : Hid (x.size ≤ 100000) := Lib.hid (by have h1 := read7_size s false zf; rw [hr] at h1; exact h1)
 have HB : Hid (Below w.heap.size w w) := Lib.hid (Below.refl _ _)
 obtain ⟨b5, hb5⟩ : ∃ b, decide ((500 : Int) < (s0.size : Int)) = b := ⟨_, rfl⟩
 have hb6 : decide (500 < s0.size) = b5 := by rw [← hb5]; congr 1; apply propext; omega
 clear hs hr
 go_enter Try.func4, Try.ntmps4
 go_upto_if 14 with fail
 go_cut [0] (fun v0 wx => v0 = .string s ∧ wx = w)
 case first =>
  cases b5 with
  | true =>
   have h5 : 500 < s0.size := of_decide_eq_true hb6
   have b1 : (500 : Int) ≤ (s0.size : Int) := by omega
   have b2 : 500 ≤ s0.size := by omega
   have e9 : s0.extract 0 500 = s := by rw [← HS.out]; unfold cut5; rw [if_pos h5]
   clear h5
   go_wp2_with fail
   go_meet
   exact ⟨by rw [← e9], rfl⟩
  | false =>
   have e9 : s0 = s := by rw [← HS.out]; unfold cut5; rw [if_neg (of_decide_eq_false hb6)]
   go_wp2_with fail
   go_meet
   exact ⟨by rw [← e9], rfl⟩
 case rest =>
  obtain ⟨rfl, hw'⟩ := hcut
  replace hw' := hw'.symm
  subst hw'
  clear hb5 hb6
  by_cases he : er = 0
  ·subst he
   go_upto_region 4 with (first | (go_at_call 6; (with_reducible refine (HRD.out _).mono ?_); rintro e w1 ⟨q, rfl, hb9, hn9⟩; unfold ndV; have HBn := Lib.hid (HB.out.trans ((hb9).mono HB.out.size)); clear HB; have HB := HBn; clear HBn; have HN := Lib.hid hn9; clear hb9 hn9))
   have hal := (Below.refl w1.heap.size w1).alloc (Nat.le_refl _) (.cells #[.int .i64 x.kind, .string x.text, .int .i64 x.num, .slice q.pn x.names.length q.cn, .slice q.pt x.temps.length q.ct, .slice q.pk x.kids.length q.ck] 25)
   have hbx := heap_alloc_new w1 (.cells #[.int .i64 x.kind, .string x.text, .int .i64 x.num, .slice q.pn x.names.length q.cn, .slice q.pt x.temps.length q.ct, .slice q.pk x.kids.length q.ck] 25)
   obtain ⟨w2, hwe⟩ : ∃ z, w1.alloc (.cells #[.int .i64 x.kind, .string x.text, .int .i64 x.num, .slice q.pn x.names.length q.cn, .slice q.pt x.temps.length q.ct, .slice q.pk x.kids.length q.ck] 25) = z := ⟨_, rfl⟩
   rw [hwe] at hal hbx ⊢
   have hn9 := HN.out.under hal
   have HBn := Lib.hid (HB.out.trans ((hal).mono HB.out.size)); clear HB; have HB := HBn; clear HBn
   clear HN hwe hal HRD
   have HN := Lib.hid hn9
   obtain ⟨a0, a1, a2, a3, a4, a5⟩ := cc6 (hbx)
   clear hn9
   obtain ⟨⟨m, nm, fe⟩, hm⟩ : ∃ r, readC x.size x [] true = r := ⟨_, rfl⟩
   have HMR := Lib.hid hm
   have HM : Hid (∀ W, Below w2.heap.size w2 W → Calls Try.prog 8 #[.agg #[.int .i64 x.kind, .string x.text, .int .i64 x.num, .slice q.pn x.names.length q.cn, .slice q.pt x.temps.length q.ct, .slice q.pk x.kids.length q.ck]] W (MetP m nm fe W)) := Lib.hid (fun W hW => (doit_any (HN.out.under hW) HSZ.out).mono (fun e w' h => by rw [hm] at h; exact h.met))
   clear hm
   go_upto_region 7 with (first | (go_at_call 8; (with_reducible refine (HM.out _ bel).mono ?_); rintro e w3c ⟨Al, nl, cl, Ac, nc, cc, D, ps, rfl, hl1, hl2, hl3, hl4, hl5, hl6, htd, hb9⟩; have hs9 := ((show Below w2.heap.size w2 _ from bel).trans (hb9.mono (show Below w2.heap.size w2 _ from bel).size)); have HBn := Lib.hid (HB.out.trans ((hs9).mono HB.out.size)); clear HB; have HB := HBn; clear HBn; have HL1 := Lib.hid hl1; have HL2 := Lib.hid hl2; have HLC : Hid (nl ≤ cl ∧ cl ≤ maxLen ∧ nc ≤ cc ∧ cc ≤ maxLen) := Lib.hid ⟨hl3, hl4, hl5, hl6⟩; have HTD := Lib.hid htd; have HX9 := Lib.hid hs9; clear hl1 hl2 hl3 hl4 hl5 hl6 htd hb9 hs9))
   clear HM
   have hal := (Below.refl w3c.heap.size w3c).alloc (Nat.le_refl _) (.cells #[.string m.sel, .int .i64 (m.args : Int), .int .i64 (m.temps : Int), .int .i64 m.prim, .slice Al nl cl, .slice Ac nc cc] 33)
   have hbm := heap_alloc_new w3c (.cells #[.string m.sel, .int .i64 (m.args : Int), .int .i64 (m.temps : Int), .int .i64 m.prim, .slice Al nl cl, .slice Ac nc cc] 33)
   have hc9 := Tx.code_kept (HTD.out.codeOf HL2.out) hal
   have hl9 := HTD.out.lits.same hal.size (fun k hk => hal.block k (World.ownsRow.lt HTD.out.lits.own k hk).2) (fun b _ hl => hal.block b hl) (fun _ z => z)
   have hps := HTD.out.lps
   have hn9 := HN.out.under (HX9.out.trans (hal.mono HX9.out.size))
   have hx9 := ((HX9.out.trans (hal.mono HX9.out.size)).block _ (lt_of_block hbx)).trans hbx
   obtain ⟨w3, hwe⟩ : ∃ z, w3c.alloc (.cells #[.string m.sel, .int .i64 (m.args : Int), .int .i64 (m.temps : Int), .int .i64 m.prim, .slice Al nl cl, .slice Ac nc cc] 33) = z := ⟨_, rfl⟩
   rw [hwe] at hal hbm hc9 hl9 hn9 hx9 ⊢
   have HBn := Lib.hid (HB.out.trans ((hal).mono HB.out.size)); clear HB; have HB := HBn; clear HBn
   clear HN hwe hal HX9 hbx a0 a1 a2 a3 a4 a5 HTD
   have HN := Lib.hid hn9
   have HBX := Lib.hid hx9
   have HC := Lib.hid hc9
   have HLR := Lib.hid hl9
   have HPS := Lib.hid hps
   have HBM := Lib.hid hbm
   obtain ⟨b0, b1, b2, b3, b4, b5⟩ := cc6 (hbm)
   clear hn9 hx9 hc9 hl9 hps hbm
   by_cases hf : fe = 0
   ·subst hf
    have HMET := Lib.hid (readC_met HMR.out)
    have hcl : nc ≤ 400 := by rw [← HL2.out]; exact HMET.out.code
    obtain ⟨f1, hf1⟩ : ∃ z, x.size = z + 1 := ⟨x.size - 1, by have := x.size_pos; omega⟩
    have hmr := HMR.out
    rw [hf1] at hmr
    obtain ⟨cc0, ci, hce, hc20, hcj⟩ := readC_end hmr
    obtain ⟨hpos, htg, hlast⟩ := end_facts hce hc20 hcj
    have HTG := Lib.hid htg
    have hp1 : 0 < nc := by rw [← HL2.out]; exact hpos
    have n0 : (nc == 0) = false := by simp; omega
    have n1 : ((nc : Int) == 0) = false := by simp; omega
    have n2 : decide ((400 : Int) < (nc : Int)) = false := decide_eq_false (by omega)
    have n3 : decide (400 < nc) = false := decide_eq_false (by omega)
    obtain ⟨cb, co, hca, hcb, c0, c1, c2⟩ := HC.out.at_ (k := nc - 1) (Below.refl _ _) (by omega)
    have hl20 : (codeF m.code (nc - 1)).op = 20 := by
     have h9 := hlast (by omega)
     unfold codeF
     rw [List.getD_eq_getElem?_getD, List.getElem?_eq_getElem (by rw [HL2.out]; omega)]
     show (m.code[nc - 1]'_).op = 20
     rw [← h9]
     congr 2
     rw [HL2.out]
    rw [hl20] at c0
    subst hca
    have hw1 : IntKind.i64.wrap ((nc : Int) - 1) = (nc : Int) - 1 := IntWalk.i64_in _ (by omega)
    have g0 : (0 : Int) ≤ (nc : Int) - 1 := by omega
    have g1 : (nc : Int) - 1 < (nc : Int) := by omega
    have g2 : ((nc : Int) - 1).toNat = nc - 1 := by omega
    clear hf1 hmr hce hc20 hcj hpos htg hlast hl20 c1 c2
    go_wp2_with fail
    clear c0 g0 g1 g2
    go_loopw [10] (fun i wr => ∃ k : Nat, i = .int .i64 k ∧ k ≤ nc ∧ Below w3.heap.size w3 wr) (fun i _ => nc - (intOf i).toNat)
    case atStart => exact ⟨0, rfl, Nat.zero_le _, Below.refl _ _⟩
    case round =>
     obtain ⟨k, rfl, hk, hbr⟩ := hrel
     have HBR := Lib.hid hbr
     have hm9 := (hbr.block _ (lt_of_block HBM.out)).trans HBM.out
     clear b0 b1 b2 b3 b4 b5
     obtain ⟨b0, b1, b2, b3, b4, b5⟩ := cc6 (hm9)
     clear hm9
     by_cases hlt : k < nc
     ·have d1 : decide (k < nc) = true := decide_eq_true hlt
      have d2 : decide ((k : Int) < (nc : Int)) = true := decide_eq_true (by omega)
      have hkl : k < m.code.length := by rw [HL2.out]; exact hlt
      obtain ⟨cb', co', hca, hcb', c0, c1, c2⟩ := HC.out.at_ hbr hlt
      obtain ⟨rfl, rfl⟩ : cb' = cb ∧ co' = co := by cases hca; exact ⟨rfl, rfl⟩
      have hmay := may_in (HMET.out.may _ (List.getElem_mem hkl))
      have htk := HTG.out k hkl
      have hbk := fun ho => blk_facts HMET.out.blk hkl ho
      obtain ⟨ii, hii⟩ : ∃ z, m.code[k] = z := ⟨_, rfl⟩
      have hcd : codeF m.code k = ii := by unfold codeF; rw [List.getD_eq_getElem?_getD, List.getElem?_eq_getElem hkl, ← hii]; rfl
      rw [hii] at hmay htk hbk
      rw [hcd] at c0 c1 c2
      obtain ⟨io, ia, ib⟩ := ii
      dsimp only at c0 c1 c2 hmay
      rw [HL2.out] at htk
      rw [← target_tgt] at htk
      have hbw : cb' < wr.heap.size := Nat.lt_of_lt_of_le hcb hbr.size
      have HCB := Lib.hid hbw
      have HT1 : Hid (∀ W, Below wr.heap.size wr W → Calls Try.prog 10 #[.agg #[.int .i64 io, .int .i64 ia, .int .i64 ib]] W fun e w' => e = .returned (.int .i64 (targetV ⟨io, ia, ib⟩)) ∧ Below W.heap.size W w') := Lib.hid (fun W _ => Lv.rtarget_any io ia ib W (by omega) (by omega) (by omega) (by omega))
      obtain ⟨tv, htv⟩ : ∃ z, targetV ⟨io, ia, ib⟩ = z := ⟨_, rfl⟩
      rw [htv] at HT1 htk
      have t1 : decide ((nc : Int) ≤ tv) = false := decide_eq_false (by omega)
      have g0 : (0 : Int) ≤ (k : Int) := by omega
      have g1 : (k : Int) < (nc : Int) := by omega
      have HK0 : Hid (∀ W, Below wr.heap.size wr W → W.cell? ⟨cb', co' + k * 3, none⟩ = some (.int .i64 io)) := Lib.hid (fun W hW => (World.cell?_of_block (hW.block _ HCB.out)).trans c0)
      clear hca htv hmay hcd
      cases h18 : (io == 18) with
      | false =>
       clear hbk hii hbr
       go_wp2_with (first | (go_at_call 10; (with_reducible refine (HT1.out _ bel).mono ?_); rintro e w5 ⟨rfl, hb5⟩; have hbq := (show Below wr.heap.size wr _ from bel).trans (hb5.mono (show Below wr.heap.size wr _ from bel).size); have HBQ := Lib.hid (HBR.out.trans (hbq.mono HBR.out.size)); have hm9 := (HBQ.out.block _ (lt_of_block HBM.out)).trans HBM.out; clear b0 b1 b2 b3 b4 b5; obtain ⟨b0, b1, b2, b3, b4, b5⟩ := cc6 (hm9); clear hm9; have c0 : w5.cell? ⟨cb', co' + k * 3, none⟩ = some (.int .i64 io) := HK0.out w5 hbq; clear hbq; clear hb5))
       go_roundw
       case rel => exact ⟨k + 1, by go_num, by omega, HBQ.out⟩
       case measure => simp [intOf]; omega
      | true =>
       have hio : io = 18 := by simpa using h18
       clear h18
       obtain ⟨hk1, hj16, hjt⟩ := hbk hio
       subst hio
       have hlt1 : k + 1 < nc := by rw [← HL2.out]; exact hk1
       obtain ⟨cb9, co9, hca, _, d0, d1', d2'⟩ := HC.out.at_ hbr hlt1
       obtain ⟨rfl, rfl⟩ : cb9 = cb' ∧ co9 = co' := by cases hca; exact ⟨rfl, rfl⟩
       have hmay := may_in (HMET.out.may _ (List.getElem_mem hk1))
       obtain ⟨jj, hjj⟩ : ∃ z, m.code[k + 1] = z := ⟨_, rfl⟩
       have hcd : codeF m.code (k + 1) = jj := by unfold codeF; rw [List.getD_eq_getElem?_getD, List.getElem?_eq_getElem hk1, ← hjj]; rfl
       rw [hjj] at hmay hj16 hjt
       rw [hcd] at d0 d1' d2'
       obtain ⟨jo, ja, jb⟩ := jj
       dsimp only at d0 d1' d2' hmay hj16
       subst hj16
       rw [← target_tgt] at hjt
       have HT2 : Hid (∀ W, Below wr.heap.size wr W → Calls Try.prog 10 #[.agg #[.int .i64 16, .int .i64 ja, .int .i64 jb]] W fun e w' => e = .returned (.int .i64 (targetV ⟨16, ja, jb⟩)) ∧ Below W.heap.size W w') := Lib.hid (fun W _ => Lv.rtarget_any 16 ja jb W (by omega) (by omega) (by omega) (by omega))
       obtain ⟨t2, ht2⟩ : ∃ z, targetV ⟨16, ja, jb⟩ = z := ⟨_, rfl⟩
       rw [ht2] at HT2 hjt
       have t3 : decide (t2 ≤ (k : Int) + 2) = false := decide_eq_false (by omega)
       have g5 : (0 : Int) ≤ (k : Int) + 1 := by omega
       have g6 : (k : Int) + 1 < (nc : Int) := by omega
       have g7 : ((k : Int) + 1).toNat = k + 1 := by omega
       have g8 : IntKind.i64.wrap ((k : Int) + 1) = (k : Int) + 1 := IntWalk.i64_in _ (by omega)
       have g9 : IntKind.i64.wrap ((k : Int) + 2) = (k : Int) + 2 := IntWalk.i64_in _ (by omega)
       have HK1 : Hid (∀ W, Below wr.heap.size wr W → W.cell? ⟨cb9, co9 + (k + 1) * 3, none⟩ = some (.int .i64 16) ∧ W.cell? ⟨cb9, co9 + (k + 1) * 3 + 1, none⟩ = some (.int .i64 ja) ∧ W.cell? ⟨cb9, co9 + (k + 1) * 3 + 2, none⟩ = some (.int .i64 jb)) := Lib.hid (fun W hW => ⟨(World.cell?_of_block (hW.block _ HCB.out)).trans d0, (World.cell?_of_block (hW.block _ HCB.out)).trans d1', (World.cell?_of_block (hW.block _ HCB.out)).trans d2'⟩)
       clear hbk hii hbr hca hcd hjj ht2 hmay
       go_wp2_with (first | (go_at_call 10; (with_reducible refine (HT1.out _ bel).mono ?_); rintro e w5 ⟨rfl, hb5⟩; have hbq := (show Below wr.heap.size wr _ from bel).trans (hb5.mono (show Below wr.heap.size wr _ from bel).size); have HBQ := Lib.hid (HBR.out.trans (hbq.mono HBR.out.size)); have hm9 := (HBQ.out.block _ (lt_of_block HBM.out)).trans HBM.out; clear b0 b1 b2 b3 b4 b5; obtain ⟨b0, b1, b2, b3, b4, b5⟩ := cc6 (hm9); clear hm9; have c0 : w5.cell? ⟨cb9, co9 + k * 3, none⟩ = some (.int .i64 18) := HK0.out w5 hbq; obtain ⟨j0, j1, j2⟩ := HK1.out w5 hbq; clear hb5) | (go_at_call 10; (with_reducible refine (HT2.out _ bel).mono ?_); rintro e w6 ⟨rfl, hb5⟩; have hbq := (show Below wr.heap.size wr _ from bel).trans (hb5.mono (show Below wr.heap.size wr _ from bel).size); have HBQ := Lib.hid (HBR.out.trans (hbq.mono HBR.out.size)); have hm9 := (HBQ.out.block _ (lt_of_block HBM.out)).trans HBM.out; clear b0 b1 b2 b3 b4 b5; obtain ⟨b0, b1, b2, b3, b4, b5⟩ := cc6 (hm9); clear hm9; clear hbq; clear hb5))
       go_roundw
       case rel => exact ⟨k + 1, by go_num, by omega, HBQ.out⟩
       case measure => simp [intOf]; omega
     ·have hkn : k = nc := by omega
      have d1 : decide (k < nc) = false := decide_eq_false hlt
      have d2 : decide ((k : Int) < (nc : Int)) = false := decide_eq_false (by omega)
      clear hlt hk hkn hbr
      have HBn := Lib.hid (HB.out.trans ((HBR.out).mono HB.out.size)); clear HB; have HB := HBn; clear HBn
      go_wp2_with (first | (go_at_call 7; (with_reducible refine (lives_any _).mono ?_); rintro e w9 ⟨rfl, hb9⟩; have HF := Lib.hid (HB.out.trans (((show Below wr.heap.size wr _ from bel).trans (hb9.mono (show Below wr.heap.size wr _ from bel).size)).mono HB.out.size)); clear hb9))
      go_ret
      exact ⟨rfl, HF.out⟩
   ·have HNO := Lib.hid (readC_no HMR.out hf)
    have x1 : (fe != 0) = true := by simpa using hf
    have x2 : (fe == 0) = false := by simpa using hf
    clear hf
    go_wp2_with (first | (go_at_call 7; (with_reducible refine (lives_any _).mono ?_); rintro e w9 ⟨rfl, hb9⟩; have HF := Lib.hid (HB.out.trans (((show Below w3.heap.size w3 _ from bel).trans (hb9.mono (show Below w3.heap.size w3 _ from bel).size)).mono HB.out.size)); clear hb9))
    go_ret
    exact ⟨rfl, HF.out⟩
  ·have x1 : (er != 0) = true := by simpa using he
   have x2 : (er == 0) = false := by simpa using he
   clear he
   go_wp2_with (first | (go_at_call 6; (with_reducible refine (HRD.out _).mono ?_); rintro e w1 ⟨q, rfl, hb9, hn9⟩; unfold ndV; have HBn := Lib.hid (HB.out.trans ((hb9).mono HB.out.size)); clear HB; have HB := HBn; clear HBn; have HN := Lib.hid hn9; clear hb9 hn9) | (go_at_call 7; (with_reducible refine (lives_any _).mono ?_); rintro e w9 ⟨rfl, hb9⟩; have HF := Lib.hid (HB.out.trans (((show Below w1.heap.size w1 _ from bel).trans (hb9.mono (show Below w1.heap.size w1 _ from bel).size)).mono HB.out.size)); clear hb9))
   go_ret
   exact ⟨rfl, HF.out⟩

/-! ### the row's step -/
set_option maxRecDepth 100000 in
theorem lifted (os : Os) (started : os.Started) (H : Type) (enc : TypeId × Value → H) :
  ReturnsInHanded {} Try.checked os 4 .any (Rows.compileJumpsSpec.pre6 enc Try.prog Try.f4 Rows.compileJumpsRow.domain false) (Rows.compileJumpsSpec.post enc Try.prog Try.f4 false true false false) := by
 refine returnsInHanded_of_change (C := Try.checked) own started (by kernel_rfl) Try.func4
  (ChangeSpec.witness6 (enc := enc) (C := Try.checked) false ⟨#[], #[.string ⟨#[]⟩], []⟩ 8 (by kernel_rfl) (by kernel_rfl) (by kernel_rfl) (by kernel_rfl)) ?_
 intro W base args ds gs before hval0 hW hcnd _
 have hval : ∀ (j : Nat) t v, Try.f4.params[j]? = some t → args[j]? = some v → Value.okWide Try.prog W .any base t v := hval0
 have hW' := hW
 obtain ⟨p, q, hA0, hV, rfl, hfz, hnd⟩ := hW
 have hA : DataW.TrodAll enc Try.prog W 0 (fun _ => true) true Try.f4.params.toList args.toList ds p := hA0
 rw [Try.params4] at hA hval
 obtain ⟨v0, vs0, d0, ds0, p0, q0, hargs, rfl, rfl, h0, r0⟩ := trodAll_cons hA
 obtain ⟨rfl, rfl, rfl⟩ := trodAll_nil r0
 obtain rfl : args = #[v0] := by cases args; simp_all
 obtain ⟨rfl, rfl⟩ := trodVars_none hV
 obtain ⟨s0, rfl, rfl, rfl, z0⟩ := Go.ChangeMaps.open_string Try.underlying9 (hval 0 9 v0 rfl rfl) h0
 clear hA0 hval0
 refine (walk W _ (by have := z0; unfold maxLen at this; exact this)).mono fun e W' ⟨he, bel⟩ => ?_
 subst he
 exact ⟨_, rfl, _, _, _, [], _, [], hW', trodAll_mk1 (shut_bool Try.underlying4 _), (trodAll_cons_mk (Go.ChangeMaps.shut_string Try.underlying9 z0) trodAll_mk0), rfl, bel.frame _, fun h => by cases h⟩

theorem over : Rows.compileJumpsRow.holds Try.pinned (OpenSpec.ofChange Rows.compileJumpsSpec) :=
 OpenClaim.holds_of_wide 4 Try.f4 rfl rfl rfl rfl rfl rfl rfl ⟨rfl, rfl, rfl, rfl, rfl⟩ rfl rfl rfl rfl rfl (by kernel_rfl) Try.func4 (by kernel_rfl)
  (of_decide_eq_true (by kernel_rfl)) (by unfold Func.isWrapper; first | (rw [if_pos (by decide +kernel)]; kernel_rfl) | (rw [if_neg (by decide +kernel)]; exact ⟨rfl, rfl⟩))
  (fun os started H enc _ => lifted os started H enc)

theorem proved : Rows.CompileJumpsSaid := over
end Go.Proofs.Ytnojndgmgkgnpaa.compileJumps

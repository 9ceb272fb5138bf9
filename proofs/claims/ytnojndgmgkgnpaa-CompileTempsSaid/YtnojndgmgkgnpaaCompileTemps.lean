/- The law CompileTemps of chapter 10 holds for every input: it returns true, and its arguments stay. No conditions. -/
import Derived.Test.YtnojndgmgkgnpaaRows
import Derived.Test.YtnojndgmgkgnpaaLV0
import Derived.Test.YtnojndgmgkgnpaaLW
import Derived.Test.YtnojndgmgkgnpaaKW
import Derived.Test.YtnojndgmgkgnpaaLPlT
import Derived.WalkKit
import Derived.ProofKit
import Derived.OpenShut
import Derived.ShutString
import Derived.ChangeOld
import Derived.ChangeMaps5
import Derived.LoopN
import Derived.WalkMore
import Derived.Deep.DeepCutAuto
import Derived.Deep.CutRange
import Derived.Deep.RegionLaw
import Derived.Deep.RegionHeld3
import Derived.Laws.IdiomStrings
import Derived.Below
namespace Go.Proofs.Ytnojndgmgkgnpaa.compileTemps
open Go.ChangeShapes Go.WideShapes Go.ChangeAt Go.RowKit Go.Deep Go.Joins
set_option linter.unusedVariables false
set_option linter.unusedSimpArgs false

theorem own : ownKnob Try.prog.godebug = none := by kernel_rfl
theorem laidOut : laidOutB Try.prog = true := by kernel_rfl

set_option maxRecDepth 100000 in
set_option maxHeartbeats 40000000 in
theorem walk (w : World) (s0 : ByteArray) (z0 : s0.size ≤ 9223372036854775807) :
  Calls Try.prog 5 #[.string s0] w fun e w' => e = .returned (.bool true) ∧ Below w.heap.size w w' := by
 have zf := cut_le s0
 obtain ⟨s, hs⟩ : ∃ s, cut5 s0 = s := ⟨_, rfl⟩
 have HS := Lib.hid hs
 rw [hs] at zf
 obtain ⟨⟨x, a, er⟩, hr⟩ : ∃ r, read7 s true = r := ⟨_, rfl⟩
 have HRD : Hid (∀ W, Calls Try.prog 6 #[.string s, .bool true] W fun e w' => ∃ q, e = .returned (.tuple #[ndV x q, .int .i64 a, .int .i64 er]) ∧ Below W.heap.size W w' ∧ IsNd w' (fun _ => True) x q) := Lib.hid (fun W => read_no hr (by omega) W)
 have HSZ : Hid (x.size ≤ 100000) := Lib.hid (by have h1 := read7_size s true zf; rw [hr] at h1; exact h1)
 have HOK : Hid (okKs x.kids) := Lib.hid (by have h2 := read7_ok s true; rw [hr] at h2; exact h2)
 have HB : Hid (Below w.heap.size w w) := Lib.hid (Below.refl _ _)
 obtain ⟨b5, hb5⟩ : ∃ b, decide ((500 : Int) < (s0.size : Int)) = b := ⟨_, rfl⟩
 have hb6 : decide (500 < s0.size) = b5 := by rw [← hb5]; congr 1; apply propext; omega
 clear hs hr
 go_enter Try.func5, Try.ntmps5
 go_upto_if 11 with fail
 go_cut [0] (fun v0 wx => v0 = .string s ∧ wx = w)
 case first =>
  cases b5 with
  | true =>
   have h5 : 500 < s0.size := of_decide_eq_true hb6
   have b1 : (500 : Int) ≤ (s0.size : Int) := by omega
   have b2 : 500 ≤ s0.size := by omega
   have e9 : s0.extract 0 500 = s := by rw [← HS.out]; unfold cut5; rw [if_pos h5]
   clear h5
   go_wp2_with fail
   go_meet
   exact ⟨by rw [← e9], rfl⟩
  | false =>
   have e9 : s0 = s := by rw [← HS.out]; unfold cut5; rw [if_neg (of_decide_eq_false hb6)]
   go_wp2_with fail
   go_meet
   exact ⟨by rw [← e9], rfl⟩
 case rest =>
  obtain ⟨rfl, hw'⟩ := hcut
  replace hw' := hw'.symm
  subst hw'
  clear hb5 hb6
  by_cases he : er = 0
  ·subst he
   go_upto_region 4 with (first | (go_at_call 6; (with_reducible refine (HRD.out _).mono ?_); rintro e w1 ⟨q, rfl, hb9, hn9⟩; unfold ndV; have HBn := Lib.hid (HB.out.trans ((hb9).mono HB.out.size)); clear HB; have HB := HBn; clear HBn; have HN := Lib.hid hn9; clear hb9 hn9))
   have hal := (Below.refl w1.heap.size w1).alloc (Nat.le_refl _) (.cells #[.int .i64 x.kind, .string x.text, .int .i64 x.num, .slice q.pn x.names.length q.cn, .slice q.pt x.temps.length q.ct, .slice q.pk x.kids.length q.ck] 25)
   have hbx := heap_alloc_new w1 (.cells #[.int .i64 x.kind, .string x.text, .int .i64 x.num, .slice q.pn x.names.length q.cn, .slice q.pt x.temps.length q.ct, .slice q.pk x.kids.length q.ck] 25)
   obtain ⟨w2, hwe⟩ : ∃ z, w1.alloc (.cells #[.int .i64 x.kind, .string x.text, .int .i64 x.num, .slice q.pn x.names.length q.cn, .slice q.pt x.temps.length q.ct, .slice q.pk x.kids.length q.ck] 25) = z := ⟨_, rfl⟩
   rw [hwe] at hal hbx ⊢
   have hn9 := HN.out.under hal
   have HBn := Lib.hid (HB.out.trans ((hal).mono HB.out.size)); clear HB; have HB := HBn; clear HBn
   clear HN hwe hal HRD
   have HN := Lib.hid hn9
   obtain ⟨a0, a1, a2, a3, a4, a5⟩ := cc6 (hbx)
   clear hn9
   obtain ⟨⟨m, nm, fe⟩, hm⟩ : ∃ r, readC x.size x [bX, bY] false = r := ⟨_, rfl⟩
   have HMR := Lib.hid hm
   have HM : Hid (∀ W, Below w2.heap.size w2 W → ∀ b, W.heap[b]? = some (.cells #[.string bX, .string bY] 9 (0, 0)) → Calls Try.prog 11 #[.agg #[.int .i64 x.kind, .string x.text, .int .i64 x.num, .slice q.pn x.names.length q.cn, .slice q.pt x.temps.length q.ct, .slice q.pk x.kids.length q.ck], .slice (some ⟨b, 0, none⟩) 2 2] W (MetP m nm fe W)) := Lib.hid (fun W hW b hb => (method_any (HN.out.under hW) (strs_two hb (by decide) (by decide)) rfl (by decide) HSZ.out).mono (fun e w' h => by rw [hm] at h; exact h.met))
   clear hm
   go_upto_region 7 with (first | (go_at_call 11; (with_reducible refine (HM.out _ bel _ (heap_alloc_new _ _)).mono ?_); rintro e w3c ⟨Al, nl, cl, Ac, nc, cc, D, ps, rfl, hl1, hl2, hl3, hl4, hl5, hl6, htd, hb9⟩; have hs9 := ((show Below w2.heap.size w2 _ from bel).trans (hb9.mono (show Below w2.heap.size w2 _ from bel).size)); have HBn := Lib.hid (HB.out.trans ((hs9).mono HB.out.size)); clear HB; have HB := HBn; clear HBn; have HL1 := Lib.hid hl1; have HL2 := Lib.hid hl2; have HLC : Hid (nl ≤ cl ∧ cl ≤ maxLen ∧ nc ≤ cc ∧ cc ≤ maxLen) := Lib.hid ⟨hl3, hl4, hl5, hl6⟩; have HTD := Lib.hid htd; have HX9 := Lib.hid hs9; clear hl1 hl2 hl3 hl4 hl5 hl6 htd hb9 hs9))
   clear HM
   have hal := (Below.refl w3c.heap.size w3c).alloc (Nat.le_refl _) (.cells #[.string m.sel, .int .i64 (m.args : Int), .int .i64 (m.temps : Int), .int .i64 m.prim, .slice Al nl cl, .slice Ac nc cc] 33)
   have hbm := heap_alloc_new w3c (.cells #[.string m.sel, .int .i64 (m.args : Int), .int .i64 (m.temps : Int), .int .i64 m.prim, .slice Al nl cl, .slice Ac nc cc] 33)
   have hc9 := Tx.code_kept (HTD.out.codeOf HL2.out) hal
   have hl9 := HTD.out.lits.same hal.size (fun k hk => hal.block k (World.ownsRow.lt HTD.out.lits.own k hk).2) (fun b _ hl => hal.block b hl) (fun _ z => z)
   have hps := HTD.out.lps
   have hn9 := HN.out.under (HX9.out.trans (hal.mono HX9.out.size))
   have hx9 := ((HX9.out.trans (hal.mono HX9.out.size)).block _ (lt_of_block hbx)).trans hbx
   obtain ⟨w3, hwe⟩ : ∃ z, w3c.alloc (.cells #[.string m.sel, .int .i64 (m.args : Int), .int .i64 (m.temps : Int), .int .i64 m.prim, .slice Al nl cl, .slice Ac nc cc] 33) = z := ⟨_, rfl⟩
   rw [hwe] at hal hbm hc9 hl9 hn9 hx9 ⊢
   have HBn := Lib.hid (HB.out.trans ((hal).mono HB.out.size)); clear HB; have HB := HBn; clear HBn
   clear HN hwe hal HX9 hbx a0 a1 a2 a3 a4 a5 HTD
   have HN := Lib.hid hn9
   have HBX := Lib.hid hx9
   have HC := Lib.hid hc9
   have HLR := Lib.hid hl9
   have HPS := Lib.hid hps
   have HBM := Lib.hid hbm
   obtain ⟨b0, b1, b2, b3, b4, b5⟩ := cc6 (hbm)
   clear hn9 hx9 hc9 hl9 hps hbm
   by_cases hf : fe = 0
   ·subst hf
    obtain ⟨t1, t2, t3, t4, t5⟩ := readC_temps HMR.out (Nat.le_refl _) HOK.out
    have ha9 := HBX.out
    obtain ⟨a0, a1, a2, a3, a4, a5⟩ := cc6 (ha9)
    have HKN : Hid (∀ W, Below w3.heap.size w3 W → Calls Try.prog 12 #[.agg #[.int .i64 x.kind, .string x.text, .int .i64 x.num, .slice q.pn x.names.length q.cn, .slice q.pt x.temps.length q.ct, .slice q.pk x.kids.length q.ck]] W fun e w' => e = .returned (.int .i64 (m.temps : Int)) ∧ Below w3.heap.size w3 w') := Lib.hid (fun W hW => (known_any HN.out (by omega) W hW).mono (fun e w' ⟨he, hb⟩ => ⟨by rw [he, t1], hW.trans (hb.mono hW.size)⟩))
    obtain ⟨sel, hsel⟩ : ∃ z, m.sel = z := ⟨_, rfl⟩
    obtain ⟨na, hna⟩ : ∃ z, m.args = z := ⟨_, rfl⟩
    obtain ⟨pr, hpr⟩ : ∃ z, m.prim = z := ⟨_, rfl⟩
    obtain ⟨mt, hmt⟩ : ∃ z, m.temps = z := ⟨_, rfl⟩
    rw [hsel] at t4
    rw [hna] at t3
    rw [hpr] at t5
    rw [hmt] at t2 HKN
    have HBM2 := HBM
    rw [hsel, hna, hpr, hmt] at HBM
    rw [hsel] at b0
    rw [hna] at b1
    rw [hmt] at b2
    rw [hpr] at b3
    subst t3
    subst t4
    subst t5
    have d1 : decide ((mt : Int) ≤ 24) = true := decide_eq_true (by omega)
    have d2 : decide (mt ≤ 24) = true := decide_eq_true t2
    clear t1 ha9 HBM2
    go_upto_region 9 with fail
    go_region_held3 (fun w' => w'.cell? ⟨w3c.heap.size, 0, none⟩ = some (.string x.text) ∧ w'.cell? ⟨w3c.heap.size, 1, none⟩ = some (.int .i64 (x.names.length : Int)) ∧ w'.cell? ⟨w3c.heap.size, 2, none⟩ = some (.int .i64 (mt : Int)) ∧ w'.cell? ⟨w3c.heap.size, 3, none⟩ = some (.int .i64 x.num) ∧ w'.cell? ⟨w1.heap.size, 0, none⟩ = some (.int .i64 x.kind) ∧ w'.cell? ⟨w1.heap.size, 1, none⟩ = some (.string x.text) ∧ w'.cell? ⟨w1.heap.size, 2, none⟩ = some (.int .i64 x.num) ∧ w'.cell? ⟨w1.heap.size, 3, none⟩ = some (.slice q.pn x.names.length q.cn) ∧ w'.cell? ⟨w1.heap.size, 4, none⟩ = some (.slice q.pt x.temps.length q.ct) ∧ w'.cell? ⟨w1.heap.size, 5, none⟩ = some (.slice q.pk x.kids.length q.ck)) (first | assumption | (refine ⟨?_, ?_, ?_, ?_, ?_, ?_, ?_, ?_, ?_, ?_⟩ <;> first | assumption | (simp [go_sem, *]; done)) | (simp [go_sem, *]; done)) (first | (go_at_call 12; (with_reducible refine (HKN.out _ bel).mono ?_); rintro e w5 ⟨rfl, hb5⟩; have HB35 := Lib.hid hb5; have HBn := Lib.hid (HB.out.trans ((hb5).mono HB.out.size)); clear HB; have HB := HBn; clear HBn; have hm9 := (hb5.block _ (lt_of_block HBM.out)).trans HBM.out; have hx9 := (hb5.block _ (lt_of_block HBX.out)).trans HBX.out; clear b0 b1 b2 b3 b4 b5; obtain ⟨b0, b1, b2, b3, b4, b5⟩ := cc6 (hm9); clear a0 a1 a2 a3 a4 a5; obtain ⟨a0, a1, a2, a3, a4, a5⟩ := cc6 (hx9); clear hm9 hx9) | (go_at_call 7; (with_reducible refine (lives_any _).mono ?_); rintro e w9 ⟨rfl, hb9⟩; have hs9 := (show Below w5.heap.size w5 _ from bel).trans (hb9.mono (show Below w5.heap.size w5 _ from bel).size); have HF := Lib.hid (HB.out.trans (hs9.mono HB.out.size)); have hq9 := HB35.out.trans (hs9.mono HB35.out.size); have hm9 := (hq9.block _ (lt_of_block HBM.out)).trans HBM.out; have hx9 := (hq9.block _ (lt_of_block HBX.out)).trans HBX.out; clear b0 b1 b2 b3 b4 b5; obtain ⟨b0, b1, b2, b3, b4, b5⟩ := cc6 (hm9); clear a0 a1 a2 a3 a4 a5; obtain ⟨a0, a1, a2, a3, a4, a5⟩ := cc6 (hx9); clear hm9 hx9 hs9 hq9 hb9))
    go_wp2_with fail
    go_ret
    exact ⟨rfl, HF.out⟩
   ·have HNO := Lib.hid (readC_no HMR.out hf)
    have x1 : (fe != 0) = true := by simpa using hf
    have x2 : (fe == 0) = false := by simpa using hf
    clear hf
    have hn0 : m.temps = 0 := by rw [HNO.out]; rfl
    rw [hn0] at b2
    go_wp2_with (first | (go_at_call 7; (with_reducible refine (lives_any _).mono ?_); rintro e w9 ⟨rfl, hb9⟩; have HF := Lib.hid (HB.out.trans (((show Below w3.heap.size w3 _ from bel).trans (hb9.mono (show Below w3.heap.size w3 _ from bel).size)).mono HB.out.size)); clear hb9))
    go_ret
    exact ⟨rfl, HF.out⟩
  ·have x1 : (er != 0) = true := by simpa using he
   have x2 : (er == 0) = false := by simpa using he
   clear he
   go_wp2_with (first | (go_at_call 6; (with_reducible refine (HRD.out _).mono ?_); rintro e w1 ⟨q, rfl, hb9, hn9⟩; unfold ndV; have HBn := Lib.hid (HB.out.trans ((hb9).mono HB.out.size)); clear HB; have HB := HBn; clear HBn; have HN := Lib.hid hn9; clear hb9 hn9) | (go_at_call 7; (with_reducible refine (lives_any _).mono ?_); rintro e w9 ⟨rfl, hb9⟩; have HF := Lib.hid (HB.out.trans (((show Below w1.heap.size w1 _ from bel).trans (hb9.mono (show Below w1.heap.size w1 _ from bel).size)).mono HB.out.size)); clear hb9))
   go_ret
   exact ⟨rfl, HF.out⟩

/-! ### the row's step -/
set_option maxRecDepth 100000 in
theorem lifted (os : Os) (started : os.Started) (H : Type) (enc : TypeId × Value → H) :
  ReturnsInHanded {} Try.checked os 5 .any (Rows.compileTempsSpec.pre6 enc Try.prog Try.f5 Rows.compileTempsRow.domain false) (Rows.compileTempsSpec.post enc Try.prog Try.f5 false true false false) := by
 refine returnsInHanded_of_change (C := Try.checked) own started (by kernel_rfl) Try.func5
  (ChangeSpec.witness6 (enc := enc) (C := Try.checked) false ⟨#[], #[.string ⟨#[]⟩], []⟩ 8 (by kernel_rfl) (by kernel_rfl) (by kernel_rfl) (by kernel_rfl)) ?_
 intro W base args ds gs before hval0 hW hcnd _
 have hval : ∀ (j : Nat) t v, Try.f5.params[j]? = some t → args[j]? = some v → Value.okWide Try.prog W .any base t v := hval0
 have hW' := hW
 obtain ⟨p, q, hA0, hV, rfl, hfz, hnd⟩ := hW
 have hA : DataW.TrodAll enc Try.prog W 0 (fun _ => true) true Try.f5.params.toList args.toList ds p := hA0
 rw [Try.params5] at hA hval
 obtain ⟨v0, vs0, d0, ds0, p0, q0, hargs, rfl, rfl, h0, r0⟩ := trodAll_cons hA
 obtain ⟨rfl, rfl, rfl⟩ := trodAll_nil r0
 obtain rfl : args = #[v0] := by cases args; simp_all
 obtain ⟨rfl, rfl⟩ := trodVars_none hV
 obtain ⟨s0, rfl, rfl, rfl, z0⟩ := Go.ChangeMaps.open_string Try.underlying9 (hval 0 9 v0 rfl rfl) h0
 clear hA0 hval0
 refine (walk W _ (by have := z0; unfold maxLen at this; exact this)).mono fun e W' ⟨he, bel⟩ => ?_
 subst he
 exact ⟨_, rfl, _, _, _, [], _, [], hW', trodAll_mk1 (shut_bool Try.underlying4 _), (trodAll_cons_mk (Go.ChangeMaps.shut_string Try.underlying9 z0) trodAll_mk0), rfl, bel.frame _, fun h => by cases h⟩

theorem over : Rows.compileTempsRow.holds Try.pinned (OpenSpec.ofChange Rows.compileTempsSpec) :=
 OpenClaim.holds_of_wide 5 Try.f5 rfl rfl rfl rfl rfl rfl rfl ⟨rfl, rfl, rfl, rfl, rfl⟩ rfl rfl rfl rfl rfl (by kernel_rfl) Try.func5 (by kernel_rfl)
  (of_decide_eq_true (by kernel_rfl)) (by unfold Func.isWrapper; first | (rw [if_pos (by decide +kernel)]; kernel_rfl) | (rw [if_neg (by decide +kernel)]; exact ⟨rfl, rfl⟩))
  (fun os started H enc _ => lifted os started H enc)

theorem proved : Rows.CompileTempsSaid := over
end Go.Proofs.Ytnojndgmgkgnpaa.compileTemps

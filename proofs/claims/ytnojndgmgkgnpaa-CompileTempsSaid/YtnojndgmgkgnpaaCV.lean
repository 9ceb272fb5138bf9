/- Chapter 10: a method's statements. -/
import Derived.Test.YtnojndgmgkgnpaaCU
namespace Go.Proofs.Ytnojndgmgkgnpaa
open Go.ChangeShapes Go.WideShapes Go.ChangeAt Go.RowKit Go.Deep Go.Joins Go.Maps
set_option linter.unusedVariables false
set_option linter.unusedSimpArgs false
theorem wholes_cons (rec : NodT → CSt → CSt) (value : Bool) (k : NodT) (r : List NodT) (s : CSt) : wholesP rec value (k :: r) s = if r.length = 0 ∧ k.kind = 10 then rec k s else if r.length = 0 ∧ value = true then emitP (rec k s) 20 0 0 else if k.kind = 10 then wholesP rec value r (rec k s) else wholesP rec value r (emitP (rec k s) 12 0 0) := by rw [wholesP]
set_option maxRecDepth 100000 in
set_option maxHeartbeats 16000000 in
theorem whole_true {f : Nat} (hv : VSpec f) {w0 w : World} {P : Nat → Prop} {cb : Nat} {m : MK} {s : CSt} (h : CX w0 P w cb m s) {x : NodT} {q : NS} (hn : IsNd w0 (fun _ => True) x q) (hx : x.size ≤ f + 1) (hf : s.code.length + 8 * x.size ≤ 1000000) (hl : s.lits.length + x.size ≤ 100000) :
  Calls Try.prog 30 #[.pointer (some ⟨cb, 0, none⟩), ndV x q, .bool true] w fun e w' => e = .returned (.tuple #[]) ∧ CT w0 P w w' cb m (wholeP (valP f) x true s) := by
 have HV := Lib.hid hv
 have hxs := x.size_kids
 obtain ⟨n, hnk⟩ : ∃ n, x.kids.length = n := ⟨_, rfl⟩
 have HNK := Lib.hid hnk
 have HLOW := Lib.hid h.low
 have HSN : Hid (Strs w0 (fun _ => True) q.pn x.names ∧ Strs w0 (fun _ => True) q.pt x.temps) := Lib.hid hn.strs
 have hok := hn.ok
 have HNL : Hid (x.names.length ≤ 9223372036854775807) := Lib.hid (by have h1 := hok.nlen; unfold maxLen at h1; omega)
 have HTL : Hid (x.temps.length ≤ 9223372036854775807) := Lib.hid (by have h1 := hok.tlen; unfold maxLen at h1; omega)
 have hle : n ≤ 9223372036854775807 := (by have h1 := hok.klen; unfold maxLen at h1; omega)
 have HRW := Lib.hid hn.rows
 have hbe : Below w.heap.size w (w.alloc (.cells #[.int .i64 x.kind, .string x.text, .int .i64 x.num, .slice q.pn x.names.length q.cn, .slice q.pt x.temps.length q.ct, .slice q.pk n q.ck] 25)) := (Below.refl _ _).alloc (Nat.le_refl _) _
 have HX2 : Hid (CT w0 (fun k => P k ∨ (w.heap.size ≤ k ∧ k < (w.alloc (.cells #[.int .i64 x.kind, .string x.text, .int .i64 x.num, .slice q.pn x.names.length q.cn, .slice q.pt x.temps.length q.ct, .slice q.pk n q.ck] 25)).heap.size)) (w.alloc (.cells #[.int .i64 x.kind, .string x.text, .int .i64 x.num, .slice q.pn x.names.length q.cn, .slice q.pt x.temps.length q.ct, .slice q.pk n q.ck] 25)) (w.alloc (.cells #[.int .i64 x.kind, .string x.text, .int .i64 x.num, .slice q.pn x.names.length q.cn, .slice q.pt x.temps.length q.ct, .slice q.pk n q.ck] 25)) cb m s) := Lib.hid (h.keep hbe).ct
 have HB2 : Hid ((w.alloc (.cells #[.int .i64 x.kind, .string x.text, .int .i64 x.num, .slice q.pn x.names.length q.cn, .slice q.pt x.temps.length q.ct, .slice q.pk n q.ck] 25)).heap[w.heap.size]? = some (.cells #[.int .i64 x.kind, .string x.text, .int .i64 x.num, .slice q.pn x.names.length q.cn, .slice q.pt x.temps.length q.ct, .slice q.pk n q.ck] 25 (0, 0))) := Lib.hid (heap_alloc_new w _)
 have HBL := Lib.hid (lt_of_block HB2.out)
 have HTS : Hid (Turns (outP P) w (w.alloc (.cells #[.int .i64 x.kind, .string x.text, .int .i64 x.num, .slice q.pn x.names.length q.cn, .slice q.pt x.temps.length q.ct, .slice q.pk n q.ck] 25))) := Lib.hid (Turns.of_below hbe)
 obtain ⟨Pb, hPb⟩ : ∃ Pb : Nat → Prop, (fun k => P k ∨ (w.heap.size ≤ k ∧ k < (w.alloc (.cells #[.int .i64 x.kind, .string x.text, .int .i64 x.num, .slice q.pn x.names.length q.cn, .slice q.pt x.temps.length q.ct, .slice q.pk n q.ck] 25)).heap.size)) = Pb := ⟨_, rfl⟩
 rw [hPb] at HX2
 have INB : Hid (Pb w.heap.size) := Lib.hid (by rw [← hPb]; exact .inr ⟨Nat.le_refl _, HBL.out⟩)
 have HSUB : Hid (∀ k, P k → Pb k) := Lib.hid (fun k z => by rw [← hPb]; exact .inl z)
 obtain ⟨sd, hsd⟩ : ∃ sd, declP false x.temps (declP true x.names s) = sd := ⟨_, rfl⟩
 have HSD := Lib.hid hsd
 have HWH : Hid (wholeP (valP f) x true s = wholesP (valP f) true x.kids sd) := Lib.hid (by unfold wholeP; rw [hsd])
 have HRM0 : Hid (sd.code.length + 8 * NodT.sizes x.kids + 2 ≤ 1000000 ∧ sd.lits.length + NodT.sizes x.kids ≤ 100000) := Lib.hid (by
  have h1 := declP_same true x.names s
  have h2 := declP_same false x.temps (declP true x.names s)
  rw [hsd] at h2
  rw [h2.1, h2.2, h1.1, h1.2]
  exact ⟨by omega, by omega⟩)
 have HXS : Hid (NodT.sizes x.kids ≤ f) := Lib.hid (by omega)
 have hwl : IntKind.i64.wrap ((n : Int) - 1) = (n : Int) - 1 := by rw [IntKind.wrap_i64]; omega
 unfold ndV
 rw [hnk]
 clear hnk hok hsd hn hx hf hl hv hxs h hbe hPb
 go_enter Try.func30, Try.ntmps30
 go_wp2_with (first | (go_at_call 43; (with_reducible refine (decl_at HX2.out bel HSN.out.1 rfl HNL.out true).mono ?_); rintro e w3 ⟨rfl, hx3⟩; have HX3 := Lib.hid hx3; have HB3 := Lib.hid ((hx3.2.block w.heap.size HBL.out (fun z => z INB.out)).trans HB2.out); clear hx3; have hc6 := cells_sixn HB3.out; have c0 := hc6.c0; have c1 := hc6.c1; have c2 := hc6.c2; have c3 := hc6.c3; have c4 := hc6.c4; have c5 := hc6.c5; clear hc6) | (go_at_call 43; (with_reducible refine (decl_at HX3.out bel HSN.out.2 rfl HTL.out false).mono ?_); rintro e w4 ⟨rfl, hx3⟩; have HX4 := Lib.hid hx3; have HB4 := Lib.hid ((hx3.2.block w.heap.size HBL.out (fun z => z INB.out)).trans HB2.out); clear hx3; have hc6 := cells_sixn HB4.out; have c0 := hc6.c0; have c1 := hc6.c1; have c2 := hc6.c2; have c3 := hc6.c3; have c4 := hc6.c4; have c5 := hc6.c5; clear hc6))
 obtain ⟨wB, hwB⟩ : ∃ wB, w.alloc (.cells #[.int .i64 x.kind, .string x.text, .int .i64 x.num, .slice q.pn x.names.length q.cn, .slice q.pt x.temps.length q.ct, .slice q.pk n q.ck] 25) = wB := ⟨_, rfl⟩
 have HTSB : Hid (Turns (outP P) w wB) := Lib.hid (by rw [← hwB]; exact HTS.out)
 have HX4B : Hid (CT w0 Pb wB w4 cb m sd) := Lib.hid (by rw [← hwB, ← HSD.out]; exact HX4.out)
 clear hwB
 go_loopw [24] (fun i wr => ∃ (k : Nat) (sk : CSt), i = .int .i64 k ∧ k ≤ n ∧ CT w0 Pb wB wr cb m sk ∧ wholesP (valP f) true x.kids sd = wholesP (valP f) true (x.kids.drop k) sk ∧ (sk.code.length + 8 * NodT.sizes (x.kids.drop k) + 2 ≤ 1000000 ∧ sk.lits.length + NodT.sizes (x.kids.drop k) ≤ 100000)) (fun i _ => n - (intOf i).toNat)
 case atStart => exact ⟨0, sd, rfl, Nat.zero_le _, HX4B.out, rfl, HRM0.out⟩
 case round =>
  obtain ⟨k, sk, rfl, hk, hct, hde, hrm⟩ := hrel
  have HX := Lib.hid hct
  have HD := Lib.hid hde
  have HRM := Lib.hid hrm
  clear hct hde hrm c0 c1 c2 c3 c4 c5
  by_cases hlt : k < n
  ·have d1 : decide (k < n) = true := decide_eq_true hlt
   have d2 : decide ((k : Int) < (n : Int)) = true := decide_eq_true (by omega)
   have hkl : k < x.kids.length := by rw [HNK.out]; exact hlt
   obtain ⟨b, off, q', hpk, hbl, hc6, hkd⟩ := HRW.out k hkl
   have hsz := sizes_drop_eq x.kids k hkl
   have hst := HX.out.1.stat
   have hc6w := hc6.same (hst.block b hbl)
   have hsk : (x.kids[k]).size ≤ f := Nat.le_trans (sizes_drop x.kids k hkl) HXS.out
   have hdr : x.kids.drop k = x.kids[k] :: x.kids.drop (k + 1) := List.drop_eq_getElem_cons hkl
   obtain ⟨kd, hkx⟩ : ∃ kd, x.kids[k] = kd := ⟨_, rfl⟩
   rw [hkx] at hc6w hkd hsz hsk hdr
   have HSZ := Lib.hid hsz
   have HSK := Lib.hid hsk
   have HDR := Lib.hid hdr
   have HKD := Lib.hid hkd
   have HLT := Lib.hid hlt
   have HGR := Lib.hid (valP_gr f kd sk hsk)
   have hbw : b < wr.heap.size := Nat.lt_of_lt_of_le hbl hst.size
   have c0 := hc6w.c0
   have c1 := hc6w.c1
   have c2 := hc6w.c2
   have c3 := hc6w.c3
   have c4 := hc6w.c4
   have c5 := hc6w.c5
   have g0 : (0 : Int) ≤ (k : Int) := by omega
   have g1 : (k : Int) < (n : Int) := by omega
   have hbe : Below wr.heap.size wr (wr.alloc (.cells #[.int .i64 kd.kind, .string kd.text, .int .i64 kd.num, .slice q'.pn kd.names.length q'.cn, .slice q'.pt kd.temps.length q'.ct, .slice q'.pk kd.kids.length q'.ck] 25)) := (Below.refl _ _).alloc (Nat.le_refl _) _
   have hk5 := HX.out.1.keep hbe
   have hb5 : (wr.alloc (.cells #[.int .i64 kd.kind, .string kd.text, .int .i64 kd.num, .slice q'.pn kd.names.length q'.cn, .slice q'.pt kd.temps.length q'.ct, .slice q'.pk kd.kids.length q'.ck] 25)).heap[wr.heap.size]? = some (.cells #[.int .i64 kd.kind, .string kd.text, .int .i64 kd.num, .slice q'.pn kd.names.length q'.cn, .slice q'.pt kd.temps.length q'.ct, .slice q'.pk kd.kids.length q'.ck] 25 (0, 0)) := heap_alloc_new wr _
   have hin5 : wr.heap.size ≤ wr.heap.size ∧ wr.heap.size < (wr.alloc (.cells #[.int .i64 kd.kind, .string kd.text, .int .i64 kd.num, .slice q'.pn kd.names.length q'.cn, .slice q'.pt kd.temps.length q'.ct, .slice q'.pk kd.kids.length q'.ck] 25)).heap.size := ⟨Nat.le_refl _, lt_of_block hb5⟩
   have HWB0 := Lib.hid hbe
   have HK50 := Lib.hid hk5
   have HB50 := Lib.hid hb5
   have HIN50 := Lib.hid hin5
   clear hbe hk5 hb5 hin5
   rw [hpk]
   clear hst hc6 hc6w hkd hsz hsk hdr hkx hkl hlt hpk
   go_upto_region 7 with fail
   have hbe := HWB0.out
   have hk5 := HK50.out
   have hb5 := HB50.out
   have hin5 := HIN50.out
   obtain ⟨wb, hwb⟩ : ∃ wb, (wr.alloc (.cells #[.int .i64 kd.kind, .string kd.text, .int .i64 kd.num, .slice q'.pn kd.names.length q'.cn, .slice q'.pt kd.temps.length q'.ct, .slice q'.pk kd.kids.length q'.ck] 25)) = wb := ⟨_, rfl⟩
   rw [hwb] at hbe hk5 hb5 hin5 ⊢
   have HWB := Lib.hid hbe
   have HK5 := Lib.hid hk5
   have HB5 := Lib.hid hb5
   have HIN5 : Hid ((fun j => Pb j ∨ wr.heap.size ≤ j ∧ j < wb.heap.size) wr.heap.size) := Lib.hid (.inr hin5)
   have hc6 := cells_six HB5.out
   have d0 := hc6.c0
   have d1 := hc6.c1
   have d2 := hc6.c2
   have d3 := hc6.c3
   have d4 := hc6.c4
   have d5 := hc6.c5
   clear hc6
   have hva : ∀ {wa W : World}, CT w0 (fun j => Pb j ∨ wr.heap.size ≤ j ∧ j < wb.heap.size) wb wa cb m sk → Below wa.heap.size wa W → Calls Try.prog 44 #[.pointer (some ⟨cb, 0, none⟩), ndV kd q'] W fun e w' => e = .returned (.tuple #[]) ∧ CT w0 (fun j => Pb j ∨ wr.heap.size ≤ j ∧ j < wb.heap.size) wb w' cb m (valP f kd sk) := fun hc hb => HV.out.at_ HSK.out hc hb HKD.out (by have h1 := HRM.out; have h2 := HSZ.out; omega) (by have h1 := HRM.out; have h2 := HSZ.out; omega)
   unfold ndV at hva
   have HVA : Hid (∀ {wa W : World}, CT w0 (fun j => Pb j ∨ wr.heap.size ≤ j ∧ j < wb.heap.size) wb wa cb m sk → Below wa.heap.size wa W → _) := Lib.hid hva
   have HF7 : Hid ((valP f kd sk).code.length ≤ 1000000) := Lib.hid (by have h0 := HGR.out.code; have h1 := HRM.out; have h2 := HSZ.out; have h3 := kd.size_pos; omega)
   clear hbe hk5 hb5 hin5 hwb HWB0 HK50 HB50 HIN50 hva
   by_cases el : k + 1 = n
   ·have l1 : ((k : Int) == (n : Int) - 1) = true := by simp; omega
    have l2 : (k : Int) = (n : Int) - 1 := by omega
    by_cases e10 : kd.kind = 10
    ·have q1 : (kd.kind == 10) = true := by simpa using e10
     have hny : wholesP (valP f) true (kd :: x.kids.drop (k + 1)) sk = (valP f kd sk) := by
      have hl9 : (x.kids.drop (k + 1)).length = n - (k + 1) := by rw [List.length_drop, HNK.out]
      have hk9 := HLT.out
      rw [wholes_cons]
      rw [if_pos ⟨by omega, e10⟩]
     have HNY := Lib.hid hny
     have HNX : Hid (wholesP (valP f) true x.kids sd = (valP f kd sk)) := Lib.hid (by rw [HD.out, HDR.out, hny])
     clear hny e10
     go_wp2_with (first | (go_at_call 44; (with_reducible refine (HVA.out HK5.out.ct bel).mono ?_); rintro e w7 ⟨rfl, hx3⟩; have HX7 := Lib.hid hx3; have HB7 := Lib.hid ((hx3.2.block wr.heap.size (lt_of_block HB5.out) (fun z => z HIN5.out)).trans HB5.out); clear hx3; have hc6 := cells_six HB7.out; have d0 := hc6.c0; have d1 := hc6.c1; have d2 := hc6.c2; have d3 := hc6.c3; have d4 := hc6.c4; have d5 := hc6.c5; clear hc6))
     go_returns
     rw [HWH.out, HNX.out]
     exact ⟨rfl, CT.deep HTSB.out (HX.out.back HWB.out HX7.out (fun k z => .inl z)) HSUB.out HLOW.out⟩
    ·have q1 : (kd.kind == 10) = false := by simpa using e10
     have hny : wholesP (valP f) true (kd :: x.kids.drop (k + 1)) sk = emitP (valP f kd sk) 20 0 0 := by
      have hl9 : (x.kids.drop (k + 1)).length = n - (k + 1) := by rw [List.length_drop, HNK.out]
      have hk9 := HLT.out
      rw [wholes_cons]
      rw [if_neg (fun z => e10 z.2), if_pos ⟨by omega, rfl⟩]
     have HNY := Lib.hid hny
     have HNX : Hid (wholesP (valP f) true x.kids sd = emitP (valP f kd sk) 20 0 0) := Lib.hid (by rw [HD.out, HDR.out, hny])
     clear hny e10
     go_wp2_with (first | (go_at_call 44; (with_reducible refine (HVA.out HK5.out.ct bel).mono ?_); rintro e w7 ⟨rfl, hx3⟩; have HX7 := Lib.hid hx3; have HB7 := Lib.hid ((hx3.2.block wr.heap.size (lt_of_block HB5.out) (fun z => z HIN5.out)).trans HB5.out); clear hx3; have hc6 := cells_six HB7.out; have d0 := hc6.c0; have d1 := hc6.c1; have d2 := hc6.c2; have d3 := hc6.c3; have d4 := hc6.c4; have d5 := hc6.c5; clear hc6) | (go_at_call 45; (with_reducible refine (emit_at HX7.out bel 20 0 0 HF7.out).mono ?_); rintro e w8 ⟨rfl, hx3⟩; have HX8 := Lib.hid hx3; clear hx3))
     go_returns
     rw [HWH.out, HNX.out]
     exact ⟨rfl, CT.deep HTSB.out (HX.out.back HWB.out HX8.out (fun k z => .inl z)) HSUB.out HLOW.out⟩
   ·have l1 : ((k : Int) == (n : Int) - 1) = false := by simp; omega
    have l2 : ¬ ((k : Int) = (n : Int) - 1) := by omega
    by_cases e10 : kd.kind = 10
    ·have q1 : (kd.kind == 10) = true := by simpa using e10
     have hny : wholesP (valP f) true (kd :: x.kids.drop (k + 1)) sk = wholesP (valP f) true (x.kids.drop (k + 1)) (valP f kd sk) := by
      have hl9 : (x.kids.drop (k + 1)).length = n - (k + 1) := by rw [List.length_drop, HNK.out]
      have hk9 := HLT.out
      rw [wholes_cons]
      rw [if_neg (fun z => by have := z.1; omega), if_neg (fun z => by have := z.1; omega), if_pos e10]
     have HNY := Lib.hid hny
     have HNX : Hid (wholesP (valP f) true x.kids sd = wholesP (valP f) true (x.kids.drop (k + 1)) (valP f kd sk)) := Lib.hid (by rw [HD.out, HDR.out, hny])
     clear hny e10
     go_wp2_with (first | (go_at_call 44; (with_reducible refine (HVA.out HK5.out.ct bel).mono ?_); rintro e w7 ⟨rfl, hx3⟩; have HX7 := Lib.hid hx3; have HB7 := Lib.hid ((hx3.2.block wr.heap.size (lt_of_block HB5.out) (fun z => z HIN5.out)).trans HB5.out); clear hx3; have hc6 := cells_six HB7.out; have d0 := hc6.c0; have d1 := hc6.c1; have d2 := hc6.c2; have d3 := hc6.c3; have d4 := hc6.c4; have d5 := hc6.c5; clear hc6))
     go_roundw
     case rel => exact ⟨k + 1, (valP f kd sk), by go_num, HLT.out, HX.out.back HWB.out HX7.out (fun k z => .inl z), by rw [HD.out, HDR.out, HNY.out], by
      have h0 := HGR.out.code
      have h4 := HGR.out.lits
      have h1 := HRM.out
      have h2 := HSZ.out
      have h3 := kd.size_pos
 
      exact ⟨by omega, by omega⟩⟩
     case measure => simp [intOf]; have := HLT.out; omega
    ·have q1 : (kd.kind == 10) = false := by simpa using e10
     have hny : wholesP (valP f) true (kd :: x.kids.drop (k + 1)) sk = wholesP (valP f) true (x.kids.drop (k + 1)) (emitP (valP f kd sk) 12 0 0) := by
      have hl9 : (x.kids.drop (k + 1)).length = n - (k + 1) := by rw [List.length_drop, HNK.out]
      have hk9 := HLT.out
      rw [wholes_cons]
      rw [if_neg (fun z => by have := z.1; omega), if_neg (fun z => by have := z.1; omega), if_neg e10]
     have HNY := Lib.hid hny
     have HNX : Hid (wholesP (valP f) true x.kids sd = wholesP (valP f) true (x.kids.drop (k + 1)) (emitP (valP f kd sk) 12 0 0)) := Lib.hid (by rw [HD.out, HDR.out, hny])
     clear hny e10
     go_wp2_with (first | (go_at_call 44; (with_reducible refine (HVA.out HK5.out.ct bel).mono ?_); rintro e w7 ⟨rfl, hx3⟩; have HX7 := Lib.hid hx3; have HB7 := Lib.hid ((hx3.2.block wr.heap.size (lt_of_block HB5.out) (fun z => z HIN5.out)).trans HB5.out); clear hx3; have hc6 := cells_six HB7.out; have d0 := hc6.c0; have d1 := hc6.c1; have d2 := hc6.c2; have d3 := hc6.c3; have d4 := hc6.c4; have d5 := hc6.c5; clear hc6) | (go_at_call 45; (with_reducible refine (emit_at HX7.out bel 12 0 0 HF7.out).mono ?_); rintro e w8 ⟨rfl, hx3⟩; have HX8 := Lib.hid hx3; clear hx3))
     go_roundw
     case rel => exact ⟨k + 1, (emitP (valP f kd sk) 12 0 0), by go_num, HLT.out, HX.out.back HWB.out HX8.out (fun k z => .inl z), by rw [HD.out, HDR.out, HNY.out], by
      have h0 := HGR.out.code
      have h4 := HGR.out.lits
      have h1 := HRM.out
      have h2 := HSZ.out
      have h3 := kd.size_pos
      rw [emit_code, emit_lits]
      exact ⟨by omega, by omega⟩⟩
     case measure => simp [intOf]; have := HLT.out; omega
  ·skip
   have hkn : k = n := by omega
   have d1 : decide (k < n) = false := decide_eq_false hlt
   have d2 : decide ((k : Int) < (n : Int)) = false := decide_eq_false (by omega)
   clear hlt
   have HD0 : Hid (wholesP (valP f) true x.kids sd = emitP (emitP sk 2 0 0) 20 0 0) := Lib.hid (by rw [HD.out, hkn, ← HNK.out, List.drop_length]; rfl)
   subst hkn
   have HFZ : Hid (sk.code.length ≤ 1000000) := Lib.hid (by have h1 := HRM.out; omega)
   have HFY : Hid ((emitP sk 2 0 0).code.length ≤ 1000000) := Lib.hid (by have h1 := HRM.out; rw [emit_code]; omega)
   go_wp2_with (first | (go_at_call 45; (with_reducible refine (emit_at HX.out bel 2 0 0 HFZ.out).mono ?_); rintro e w8 ⟨rfl, hx3⟩; have HX8 := Lib.hid hx3; clear hx3) | (go_at_call 45; (with_reducible refine (emit_at HX8.out bel 20 0 0 HFY.out).mono ?_); rintro e w9 ⟨rfl, hx3⟩; have HX9 := Lib.hid hx3; clear hx3))
   go_returns
   rw [HWH.out, HD0.out]
   exact ⟨rfl, CT.deep HTSB.out HX9.out HSUB.out HLOW.out⟩
set_option maxRecDepth 100000 in
set_option maxHeartbeats 16000000 in
theorem whole_false {f : Nat} (hv : VSpec f) {w0 w : World} {P : Nat → Prop} {cb : Nat} {m : MK} {s : CSt} (h : CX w0 P w cb m s) {x : NodT} {q : NS} (hn : IsNd w0 (fun _ => True) x q) (hx : x.size ≤ f + 1) (hf : s.code.length + 8 * x.size ≤ 1000000) (hl : s.lits.length + x.size ≤ 100000) :
  Calls Try.prog 30 #[.pointer (some ⟨cb, 0, none⟩), ndV x q, .bool false] w fun e w' => e = .returned (.tuple #[]) ∧ CT w0 P w w' cb m (wholeP (valP f) x false s) := by
 have HV := Lib.hid hv
 have hxs := x.size_kids
 obtain ⟨n, hnk⟩ : ∃ n, x.kids.length = n := ⟨_, rfl⟩
 have HNK := Lib.hid hnk
 have HLOW := Lib.hid h.low
 have HSN : Hid (Strs w0 (fun _ => True) q.pn x.names ∧ Strs w0 (fun _ => True) q.pt x.temps) := Lib.hid hn.strs
 have hok := hn.ok
 have HNL : Hid (x.names.length ≤ 9223372036854775807) := Lib.hid (by have h1 := hok.nlen; unfold maxLen at h1; omega)
 have HTL : Hid (x.temps.length ≤ 9223372036854775807) := Lib.hid (by have h1 := hok.tlen; unfold maxLen at h1; omega)
 have hle : n ≤ 9223372036854775807 := (by have h1 := hok.klen; unfold maxLen at h1; omega)
 have HRW := Lib.hid hn.rows
 have hbe : Below w.heap.size w (w.alloc (.cells #[.int .i64 x.kind, .string x.text, .int .i64 x.num, .slice q.pn x.names.length q.cn, .slice q.pt x.temps.length q.ct, .slice q.pk n q.ck] 25)) := (Below.refl _ _).alloc (Nat.le_refl _) _
 have HX2 : Hid (CT w0 (fun k => P k ∨ (w.heap.size ≤ k ∧ k < (w.alloc (.cells #[.int .i64 x.kind, .string x.text, .int .i64 x.num, .slice q.pn x.names.length q.cn, .slice q.pt x.temps.length q.ct, .slice q.pk n q.ck] 25)).heap.size)) (w.alloc (.cells #[.int .i64 x.kind, .string x.text, .int .i64 x.num, .slice q.pn x.names.length q.cn, .slice q.pt x.temps.length q.ct, .slice q.pk n q.ck] 25)) (w.alloc (.cells #[.int .i64 x.kind, .string x.text, .int .i64 x.num, .slice q.pn x.names.length q.cn, .slice q.pt x.temps.length q.ct, .slice q.pk n q.ck] 25)) cb m s) := Lib.hid (h.keep hbe).ct
 have HB2 : Hid ((w.alloc (.cells #[.int .i64 x.kind, .string x.text, .int .i64 x.num, .slice q.pn x.names.length q.cn, .slice q.pt x.temps.length q.ct, .slice q.pk n q.ck] 25)).heap[w.heap.size]? = some (.cells #[.int .i64 x.kind, .string x.text, .int .i64 x.num, .slice q.pn x.names.length q.cn, .slice q.pt x.temps.length q.ct, .slice q.pk n q.ck] 25 (0, 0))) := Lib.hid (heap_alloc_new w _)
 have HBL := Lib.hid (lt_of_block HB2.out)
 have HTS : Hid (Turns (outP P) w (w.alloc (.cells #[.int .i64 x.kind, .string x.text, .int .i64 x.num, .slice q.pn x.names.length q.cn, .slice q.pt x.temps.length q.ct, .slice q.pk n q.ck] 25))) := Lib.hid (Turns.of_below hbe)
 obtain ⟨Pb, hPb⟩ : ∃ Pb : Nat → Prop, (fun k => P k ∨ (w.heap.size ≤ k ∧ k < (w.alloc (.cells #[.int .i64 x.kind, .string x.text, .int .i64 x.num, .slice q.pn x.names.length q.cn, .slice q.pt x.temps.length q.ct, .slice q.pk n q.ck] 25)).heap.size)) = Pb := ⟨_, rfl⟩
 rw [hPb] at HX2
 have INB : Hid (Pb w.heap.size) := Lib.hid (by rw [← hPb]; exact .inr ⟨Nat.le_refl _, HBL.out⟩)
 have HSUB : Hid (∀ k, P k → Pb k) := Lib.hid (fun k z => by rw [← hPb]; exact .inl z)
 obtain ⟨sd, hsd⟩ : ∃ sd, declP false x.temps (declP true x.names s) = sd := ⟨_, rfl⟩
 have HSD := Lib.hid hsd
 have HWH : Hid (wholeP (valP f) x false s = wholesP (valP f) false x.kids sd) := Lib.hid (by unfold wholeP; rw [hsd])
 have HRM0 : Hid (sd.code.length + 8 * NodT.sizes x.kids + 2 ≤ 1000000 ∧ sd.lits.length + NodT.sizes x.kids ≤ 100000) := Lib.hid (by
  have h1 := declP_same true x.names s
  have h2 := declP_same false x.temps (declP true x.names s)
  rw [hsd] at h2
  rw [h2.1, h2.2, h1.1, h1.2]
  exact ⟨by omega, by omega⟩)
 have HXS : Hid (NodT.sizes x.kids ≤ f) := Lib.hid (by omega)
 have hwl : IntKind.i64.wrap ((n : Int) - 1) = (n : Int) - 1 := by rw [IntKind.wrap_i64]; omega
 unfold ndV
 rw [hnk]
 clear hnk hok hsd hn hx hf hl hv hxs h hbe hPb
 go_enter Try.func30, Try.ntmps30
 go_wp2_with (first | (go_at_call 43; (with_reducible refine (decl_at HX2.out bel HSN.out.1 rfl HNL.out true).mono ?_); rintro e w3 ⟨rfl, hx3⟩; have HX3 := Lib.hid hx3; have HB3 := Lib.hid ((hx3.2.block w.heap.size HBL.out (fun z => z INB.out)).trans HB2.out); clear hx3; have hc6 := cells_sixn HB3.out; have c0 := hc6.c0; have c1 := hc6.c1; have c2 := hc6.c2; have c3 := hc6.c3; have c4 := hc6.c4; have c5 := hc6.c5; clear hc6) | (go_at_call 43; (with_reducible refine (decl_at HX3.out bel HSN.out.2 rfl HTL.out false).mono ?_); rintro e w4 ⟨rfl, hx3⟩; have HX4 := Lib.hid hx3; have HB4 := Lib.hid ((hx3.2.block w.heap.size HBL.out (fun z => z INB.out)).trans HB2.out); clear hx3; have hc6 := cells_sixn HB4.out; have c0 := hc6.c0; have c1 := hc6.c1; have c2 := hc6.c2; have c3 := hc6.c3; have c4 := hc6.c4; have c5 := hc6.c5; clear hc6))
 obtain ⟨wB, hwB⟩ : ∃ wB, w.alloc (.cells #[.int .i64 x.kind, .string x.text, .int .i64 x.num, .slice q.pn x.names.length q.cn, .slice q.pt x.temps.length q.ct, .slice q.pk n q.ck] 25) = wB := ⟨_, rfl⟩
 have HTSB : Hid (Turns (outP P) w wB) := Lib.hid (by rw [← hwB]; exact HTS.out)
 have HX4B : Hid (CT w0 Pb wB w4 cb m sd) := Lib.hid (by rw [← hwB, ← HSD.out]; exact HX4.out)
 clear hwB
 go_loopw [24] (fun i wr => ∃ (k : Nat) (sk : CSt), i = .int .i64 k ∧ k ≤ n ∧ CT w0 Pb wB wr cb m sk ∧ wholesP (valP f) false x.kids sd = wholesP (valP f) false (x.kids.drop k) sk ∧ (sk.code.length + 8 * NodT.sizes (x.kids.drop k) + 2 ≤ 1000000 ∧ sk.lits.length + NodT.sizes (x.kids.drop k) ≤ 100000)) (fun i _ => n - (intOf i).toNat)
 case atStart => exact ⟨0, sd, rfl, Nat.zero_le _, HX4B.out, rfl, HRM0.out⟩
 case round =>
  obtain ⟨k, sk, rfl, hk, hct, hde, hrm⟩ := hrel
  have HX := Lib.hid hct
  have HD := Lib.hid hde
  have HRM := Lib.hid hrm
  clear hct hde hrm c0 c1 c2 c3 c4 c5
  by_cases hlt : k < n
  ·have d1 : decide (k < n) = true := decide_eq_true hlt
   have d2 : decide ((k : Int) < (n : Int)) = true := decide_eq_true (by omega)
   have hkl : k < x.kids.length := by rw [HNK.out]; exact hlt
   obtain ⟨b, off, q', hpk, hbl, hc6, hkd⟩ := HRW.out k hkl
   have hsz := sizes_drop_eq x.kids k hkl
   have hst := HX.out.1.stat
   have hc6w := hc6.same (hst.block b hbl)
   have hsk : (x.kids[k]).size ≤ f := Nat.le_trans (sizes_drop x.kids k hkl) HXS.out
   have hdr : x.kids.drop k = x.kids[k] :: x.kids.drop (k + 1) := List.drop_eq_getElem_cons hkl
   obtain ⟨kd, hkx⟩ : ∃ kd, x.kids[k] = kd := ⟨_, rfl⟩
   rw [hkx] at hc6w hkd hsz hsk hdr
   have HSZ := Lib.hid hsz
   have HSK := Lib.hid hsk
   have HDR := Lib.hid hdr
   have HKD := Lib.hid hkd
   have HLT := Lib.hid hlt
   have HGR := Lib.hid (valP_gr f kd sk hsk)
   have hbw : b < wr.heap.size := Nat.lt_of_lt_of_le hbl hst.size
   have c0 := hc6w.c0
   have c1 := hc6w.c1
   have c2 := hc6w.c2
   have c3 := hc6w.c3
   have c4 := hc6w.c4
   have c5 := hc6w.c5
   have g0 : (0 : Int) ≤ (k : Int) := by omega
   have g1 : (k : Int) < (n : Int) := by omega
   have hbe : Below wr.heap.size wr (wr.alloc (.cells #[.int .i64 kd.kind, .string kd.text, .int .i64 kd.num, .slice q'.pn kd.names.length q'.cn, .slice q'.pt kd.temps.length q'.ct, .slice q'.pk kd.kids.length q'.ck] 25)) := (Below.refl _ _).alloc (Nat.le_refl _) _
   have hk5 := HX.out.1.keep hbe
   have hb5 : (wr.alloc (.cells #[.int .i64 kd.kind, .string kd.text, .int .i64 kd.num, .slice q'.pn kd.names.length q'.cn, .slice q'.pt kd.temps.length q'.ct, .slice q'.pk kd.kids.length q'.ck] 25)).heap[wr.heap.size]? = some (.cells #[.int .i64 kd.kind, .string kd.text, .int .i64 kd.num, .slice q'.pn kd.names.length q'.cn, .slice q'.pt kd.temps.length q'.ct, .slice q'.pk kd.kids.length q'.ck] 25 (0, 0)) := heap_alloc_new wr _
   have hin5 : wr.heap.size ≤ wr.heap.size ∧ wr.heap.size < (wr.alloc (.cells #[.int .i64 kd.kind, .string kd.text, .int .i64 kd.num, .slice q'.pn kd.names.length q'.cn, .slice q'.pt kd.temps.length q'.ct, .slice q'.pk kd.kids.length q'.ck] 25)).heap.size := ⟨Nat.le_refl _, lt_of_block hb5⟩
   have HWB0 := Lib.hid hbe
   have HK50 := Lib.hid hk5
   have HB50 := Lib.hid hb5
   have HIN50 := Lib.hid hin5
   clear hbe hk5 hb5 hin5
   rw [hpk]
   clear hst hc6 hc6w hkd hsz hsk hdr hkx hkl hlt hpk
   go_upto_region 7 with fail
   have hbe := HWB0.out
   have hk5 := HK50.out
   have hb5 := HB50.out
   have hin5 := HIN50.out
   obtain ⟨wb, hwb⟩ : ∃ wb, (wr.alloc (.cells #[.int .i64 kd.kind, .string kd.text, .int .i64 kd.num, .slice q'.pn kd.names.length q'.cn, .slice q'.pt kd.temps.length q'.ct, .slice q'.pk kd.kids.length q'.ck] 25)) = wb := ⟨_, rfl⟩
   rw [hwb] at hbe hk5 hb5 hin5 ⊢
   have HWB := Lib.hid hbe
   have HK5 := Lib.hid hk5
   have HB5 := Lib.hid hb5
   have HIN5 : Hid ((fun j => Pb j ∨ wr.heap.size ≤ j ∧ j < wb.heap.size) wr.heap.size) := Lib.hid (.inr hin5)
   have hc6 := cells_six HB5.out
   have d0 := hc6.c0
   have d1 := hc6.c1
   have d2 := hc6.c2
   have d3 := hc6.c3
   have d4 := hc6.c4
   have d5 := hc6.c5
   clear hc6
   have hva : ∀ {wa W : World}, CT w0 (fun j => Pb j ∨ wr.heap.size ≤ j ∧ j < wb.heap.size) wb wa cb m sk → Below wa.heap.size wa W → Calls Try.prog 44 #[.pointer (some ⟨cb, 0, none⟩), ndV kd q'] W fun e w' => e = .returned (.tuple #[]) ∧ CT w0 (fun j => Pb j ∨ wr.heap.size ≤ j ∧ j < wb.heap.size) wb w' cb m (valP f kd sk) := fun hc hb => HV.out.at_ HSK.out hc hb HKD.out (by have h1 := HRM.out; have h2 := HSZ.out; omega) (by have h1 := HRM.out; have h2 := HSZ.out; omega)
   unfold ndV at hva
   have HVA : Hid (∀ {wa W : World}, CT w0 (fun j => Pb j ∨ wr.heap.size ≤ j ∧ j < wb.heap.size) wb wa cb m sk → Below wa.heap.size wa W → _) := Lib.hid hva
   have HF7 : Hid ((valP f kd sk).code.length ≤ 1000000) := Lib.hid (by have h0 := HGR.out.code; have h1 := HRM.out; have h2 := HSZ.out; have h3 := kd.size_pos; omega)
   clear hbe hk5 hb5 hin5 hwb HWB0 HK50 HB50 HIN50 hva
   by_cases el : k + 1 = n
   ·have l1 : ((k : Int) == (n : Int) - 1) = true := by simp; omega
    have l2 : (k : Int) = (n : Int) - 1 := by omega
    by_cases e10 : kd.kind = 10
    ·have q1 : (kd.kind == 10) = true := by simpa using e10
     have hny : wholesP (valP f) false (kd :: x.kids.drop (k + 1)) sk = (valP f kd sk) := by
      have hl9 : (x.kids.drop (k + 1)).length = n - (k + 1) := by rw [List.length_drop, HNK.out]
      have hk9 := HLT.out
      rw [wholes_cons]
      rw [if_pos ⟨by omega, e10⟩]
     have HNY := Lib.hid hny
     have HNX : Hid (wholesP (valP f) false x.kids sd = (valP f kd sk)) := Lib.hid (by rw [HD.out, HDR.out, hny])
     clear hny e10
     go_wp2_with (first | (go_at_call 44; (with_reducible refine (HVA.out HK5.out.ct bel).mono ?_); rintro e w7 ⟨rfl, hx3⟩; have HX7 := Lib.hid hx3; have HB7 := Lib.hid ((hx3.2.block wr.heap.size (lt_of_block HB5.out) (fun z => z HIN5.out)).trans HB5.out); clear hx3; have hc6 := cells_six HB7.out; have d0 := hc6.c0; have d1 := hc6.c1; have d2 := hc6.c2; have d3 := hc6.c3; have d4 := hc6.c4; have d5 := hc6.c5; clear hc6))
     go_returns
     rw [HWH.out, HNX.out]
     exact ⟨rfl, CT.deep HTSB.out (HX.out.back HWB.out HX7.out (fun k z => .inl z)) HSUB.out HLOW.out⟩
    ·have q1 : (kd.kind == 10) = false := by simpa using e10
     have hny : wholesP (valP f) false (kd :: x.kids.drop (k + 1)) sk = wholesP (valP f) false (x.kids.drop (k + 1)) (emitP (valP f kd sk) 12 0 0) := by
      have hl9 : (x.kids.drop (k + 1)).length = n - (k + 1) := by rw [List.length_drop, HNK.out]
      have hk9 := HLT.out
      rw [wholes_cons]
      rw [if_neg (fun z => e10 z.2), if_neg (fun z => by cases z.2), if_neg e10]
     have HNY := Lib.hid hny
     have HNX : Hid (wholesP (valP f) false x.kids sd = wholesP (valP f) false (x.kids.drop (k + 1)) (emitP (valP f kd sk) 12 0 0)) := Lib.hid (by rw [HD.out, HDR.out, hny])
     clear hny e10
     go_wp2_with (first | (go_at_call 44; (with_reducible refine (HVA.out HK5.out.ct bel).mono ?_); rintro e w7 ⟨rfl, hx3⟩; have HX7 := Lib.hid hx3; have HB7 := Lib.hid ((hx3.2.block wr.heap.size (lt_of_block HB5.out) (fun z => z HIN5.out)).trans HB5.out); clear hx3; have hc6 := cells_six HB7.out; have d0 := hc6.c0; have d1 := hc6.c1; have d2 := hc6.c2; have d3 := hc6.c3; have d4 := hc6.c4; have d5 := hc6.c5; clear hc6) | (go_at_call 45; (with_reducible refine (emit_at HX7.out bel 12 0 0 HF7.out).mono ?_); rintro e w8 ⟨rfl, hx3⟩; have HX8 := Lib.hid hx3; clear hx3))
     go_roundw
     case rel => exact ⟨k + 1, (emitP (valP f kd sk) 12 0 0), by go_num, HLT.out, HX.out.back HWB.out HX8.out (fun k z => .inl z), by rw [HD.out, HDR.out, HNY.out], by
      have h0 := HGR.out.code
      have h4 := HGR.out.lits
      have h1 := HRM.out
      have h2 := HSZ.out
      have h3 := kd.size_pos
      rw [emit_code, emit_lits]
      exact ⟨by omega, by omega⟩⟩
     case measure => simp [intOf]; have := HLT.out; omega
   ·have l1 : ((k : Int) == (n : Int) - 1) = false := by simp; omega
    have l2 : ¬ ((k : Int) = (n : Int) - 1) := by omega
    by_cases e10 : kd.kind = 10
    ·have q1 : (kd.kind == 10) = true := by simpa using e10
     have hny : wholesP (valP f) false (kd :: x.kids.drop (k + 1)) sk = wholesP (valP f) false (x.kids.drop (k + 1)) (valP f kd sk) := by
      have hl9 : (x.kids.drop (k + 1)).length = n - (k + 1) := by rw [List.length_drop, HNK.out]
      have hk9 := HLT.out
      rw [wholes_cons]
      rw [if_neg (fun z => by have := z.1; omega), if_neg (fun z => by have := z.1; omega), if_pos e10]
     have HNY := Lib.hid hny
     have HNX : Hid (wholesP (valP f) false x.kids sd = wholesP (valP f) false (x.kids.drop (k + 1)) (valP f kd sk)) := Lib.hid (by rw [HD.out, HDR.out, hny])
     clear hny e10
     go_wp2_with (first | (go_at_call 44; (with_reducible refine (HVA.out HK5.out.ct bel).mono ?_); rintro e w7 ⟨rfl, hx3⟩; have HX7 := Lib.hid hx3; have HB7 := Lib.hid ((hx3.2.block wr.heap.size (lt_of_block HB5.out) (fun z => z HIN5.out)).trans HB5.out); clear hx3; have hc6 := cells_six HB7.out; have d0 := hc6.c0; have d1 := hc6.c1; have d2 := hc6.c2; have d3 := hc6.c3; have d4 := hc6.c4; have d5 := hc6.c5; clear hc6))
     go_roundw
     case rel => exact ⟨k + 1, (valP f kd sk), by go_num, HLT.out, HX.out.back HWB.out HX7.out (fun k z => .inl z), by rw [HD.out, HDR.out, HNY.out], by
      have h0 := HGR.out.code
      have h4 := HGR.out.lits
      have h1 := HRM.out
      have h2 := HSZ.out
      have h3 := kd.size_pos
 
      exact ⟨by omega, by omega⟩⟩
     case measure => simp [intOf]; have := HLT.out; omega
    ·have q1 : (kd.kind == 10) = false := by simpa using e10
     have hny : wholesP (valP f) false (kd :: x.kids.drop (k + 1)) sk = wholesP (valP f) false (x.kids.drop (k + 1)) (emitP (valP f kd sk) 12 0 0) := by
      have hl9 : (x.kids.drop (k + 1)).length = n - (k + 1) := by rw [List.length_drop, HNK.out]
      have hk9 := HLT.out
      rw [wholes_cons]
      rw [if_neg (fun z => by have := z.1; omega), if_neg (fun z => by have := z.1; omega), if_neg e10]
     have HNY := Lib.hid hny
     have HNX : Hid (wholesP (valP f) false x.kids sd = wholesP (valP f) false (x.kids.drop (k + 1)) (emitP (valP f kd sk) 12 0 0)) := Lib.hid (by rw [HD.out, HDR.out, hny])
     clear hny e10
     go_wp2_with (first | (go_at_call 44; (with_reducible refine (HVA.out HK5.out.ct bel).mono ?_); rintro e w7 ⟨rfl, hx3⟩; have HX7 := Lib.hid hx3; have HB7 := Lib.hid ((hx3.2.block wr.heap.size (lt_of_block HB5.out) (fun z => z HIN5.out)).trans HB5.out); clear hx3; have hc6 := cells_six HB7.out; have d0 := hc6.c0; have d1 := hc6.c1; have d2 := hc6.c2; have d3 := hc6.c3; have d4 := hc6.c4; have d5 := hc6.c5; clear hc6) | (go_at_call 45; (with_reducible refine (emit_at HX7.out bel 12 0 0 HF7.out).mono ?_); rintro e w8 ⟨rfl, hx3⟩; have HX8 := Lib.hid hx3; clear hx3))
     go_roundw
     case rel => exact ⟨k + 1, (emitP (valP f kd sk) 12 0 0), by go_num, HLT.out, HX.out.back HWB.out HX8.out (fun k z => .inl z), by rw [HD.out, HDR.out, HNY.out], by
      have h0 := HGR.out.code
      have h4 := HGR.out.lits
      have h1 := HRM.out
      have h2 := HSZ.out
      have h3 := kd.size_pos
      rw [emit_code, emit_lits]
      exact ⟨by omega, by omega⟩⟩
     case measure => simp [intOf]; have := HLT.out; omega
  ·skip
   have hkn : k = n := by omega
   have d1 : decide (k < n) = false := decide_eq_false hlt
   have d2 : decide ((k : Int) < (n : Int)) = false := decide_eq_false (by omega)
   clear hlt
   have HD0 : Hid (wholesP (valP f) false x.kids sd = emitP (emitP sk 1 0 0) 20 0 0) := Lib.hid (by rw [HD.out, hkn, ← HNK.out, List.drop_length]; rfl)
   subst hkn
   have HFZ : Hid (sk.code.length ≤ 1000000) := Lib.hid (by have h1 := HRM.out; omega)
   have HFY : Hid ((emitP sk 1 0 0).code.length ≤ 1000000) := Lib.hid (by have h1 := HRM.out; rw [emit_code]; omega)
   go_wp2_with (first | (go_at_call 45; (with_reducible refine (emit_at HX.out bel 1 0 0 HFZ.out).mono ?_); rintro e w8 ⟨rfl, hx3⟩; have HX8 := Lib.hid hx3; clear hx3) | (go_at_call 45; (with_reducible refine (emit_at HX8.out bel 20 0 0 HFY.out).mono ?_); rintro e w9 ⟨rfl, hx3⟩; have HX9 := Lib.hid hx3; clear hx3))
   go_returns
   rw [HWH.out, HD0.out]
   exact ⟨rfl, CT.deep HTSB.out HX9.out HSUB.out HLOW.out⟩
end Go.Proofs.Ytnojndgmgkgnpaa

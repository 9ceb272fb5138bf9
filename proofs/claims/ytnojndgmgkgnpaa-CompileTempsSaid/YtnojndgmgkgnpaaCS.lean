/- Chapter 10: a cascade. -/
import Derived.Test.YtnojndgmgkgnpaaCR
namespace Go.Proofs.Ytnojndgmgkgnpaa
open Go.ChangeShapes Go.WideShapes Go.ChangeAt Go.RowKit Go.Deep Go.Joins Go.Maps
set_option linter.unusedVariables false
set_option linter.unusedSimpArgs false
theorem cascs_cons (rec : NodT → CSt → CSt) (op : Int) (m : NodT) (r : List NodT) (s : CSt) : cascsP rec op (m :: r) s = if r.length = 0 then messP rec op m.text m.kids (if m.kind ≠ 7 then failP s eB 1 else s) else cascsP rec op r (emitP (messP rec op m.text m.kids (emitP (if m.kind ≠ 7 then failP s eB 1 else s) 13 0 0)) 12 0 0) := by rw [cascsP]
set_option maxRecDepth 100000 in
set_option maxHeartbeats 16000000 in
theorem cascade_any {f : Nat} (hv : VSpec f) {w0 w : World} {P : Nat → Prop} {cb : Nat} {m : MK} {s : CSt} (h : CX w0 P w cb m s) {x : NodT} {q : NS} (hn : IsNd w0 (fun _ => True) x q) (hx : x.size ≤ f + 1) (hf : s.code.length + 8 * x.size ≤ 1000000) (hl : s.lits.length + x.size ≤ 100000) :
  Calls Try.prog 60 #[.pointer (some ⟨cb, 0, none⟩), ndV x q] w fun e w' => e = .returned (.tuple #[]) ∧ CT w0 P w w' cb m (cascP (valP f) x s) := by
 have HH := Lib.hid h
 have HV := Lib.hid hv
 obtain ⟨nk, hnk⟩ : ∃ nk, x.kids.length = nk := ⟨_, rfl⟩
 have HNK := Lib.hid hnk
 have hokl := hn.ok.klen
 have hle : nk ≤ 9223372036854775807 := by unfold maxLen at hokl; omega
 by_cases hlt2 : nk < 2
 ·have HST : Hid (cascP (valP f) x s = failP s eB 1) := Lib.hid (by
   unfold cascP
   split
   ·rename_i k m r e
    rw [e] at hnk
    simp at hnk
    omega
   ·rfl)
  unfold ndV
  rw [hnk]
  have t1 : decide ((nk : Int) < 2) = true := decide_eq_true (by omega)
  have t2 : decide (nk < 2) = true := decide_eq_true (by omega)
  have t3 : (nk : Int) < 2 := by omega
  clear h hn hv hx hf hl hnk hokl
  go_enter Try.func60, Try.ntmps60
  go_wp2_with (first | (go_at_call 54; (with_reducible refine (fail_any (HH.out.below bel) eB (by decide) 1).mono ?_); rintro e w2 ⟨rfl, hx3⟩; have HX2 := Lib.hid hx3; clear hx3))
  go_returns
  rw [HST.out]
  have hb : Below w.heap.size w (w.alloc (.cells #[.int .i64 x.kind, .string x.text, .int .i64 x.num, .slice q.pn x.names.length q.cn, .slice q.pt x.temps.length q.ct, .slice q.pk nk q.ck] 25)) := (Below.refl _ _).alloc (Nat.le_refl _) _
  exact ⟨rfl, (HH.out.ct.below hb).go HX2.out⟩
 ·obtain ⟨n1, hn1⟩ : ∃ n1, nk = n1 + 1 := ⟨nk - 1, by omega⟩
  have HN1 := Lib.hid hn1
  obtain ⟨k0, args, hks⟩ : ∃ a l, x.kids = a :: l := by
   cases hk9 : x.kids with
   | nil => rw [hk9] at hnk; simp at hnk; omega
   | cons a l => exact ⟨a, l, rfl⟩
  have hda : x.kids.drop 1 = args := by rw [hks]; rfl
  have hal : args.length = n1 := by rw [← hda, List.length_drop, hnk]; omega
  have hsz : x.size = 1 + (k0.size + NodT.sizes args) := by rw [x.size_kids, hks, NodT.sizes]
  obtain ⟨b, off, q0, hpk, hbl, _, hc0, hn0⟩ := hn.kid (i := 0) (by rw [hks]; simp)
  rw [show x.kids[0]'(by rw [hks]; simp) = k0 from by simp [hks]] at hc0 hn0
  rw [Nat.zero_mul, Nat.add_zero] at hc0
  obtain ⟨ps1, cs1, hsl, hrs⟩ := slice_one (c := q.ck) hn.rows hnk (by omega) (by omega)
  rw [show nk - 1 = n1 by omega] at hsl
  obtain ⟨op, hop⟩ : ∃ op, (recvP (valP f) k0 s).1 = op := ⟨_, rfl⟩
  obtain ⟨s1, hs1⟩ : ∃ s1, (recvP (valP f) k0 s).2 = s1 := ⟨_, rfl⟩
  have hgr := recvP_gr (valP_gr f) (x := k0) (by omega) s
  rw [hs1] at hgr
  have hkp := k0.size_pos
  have hrc : ∀ {P' : Nat → Prop} {ws w1 W : World}, CT w0 P' ws w1 cb m s → Below w1.heap.size w1 W → Calls Try.prog 74 #[.pointer (some ⟨cb, 0, none⟩), ndV k0 q0] W fun e w' => e = .returned (.int .i64 op) ∧ CT w0 P' ws w' cb m s1 := fun hc hb => by
   have h2 := hc.below hb
   refine (receiver_any hv h2.1 hn0 (by omega) (by omega) (by omega)).mono ?_
   rw [hop, hs1]
   rintro e w' ⟨he, hc⟩
   exact ⟨he, h2.go hc⟩
  have HST : Hid (cascP (valP f) x s = cascsP (valP f) op (x.kids.drop 1) s1) := Lib.hid (by
   rw [hda]
   unfold cascP
   rw [hks]
   match args, hal with
   | [], e => simp at e; omega
   | a :: r, _ => dsimp only; rw [hop, hs1])
  have HRM0 : Hid (s1.code.length + 8 * NodT.sizes (x.kids.drop 1) ≤ 1000000 ∧ s1.lits.length + NodT.sizes (x.kids.drop 1) ≤ 100000) := Lib.hid (by rw [hda]; have h1 := hgr.code; have h2 := hgr.lits; exact ⟨by omega, by omega⟩)
  have HXS : Hid (NodT.sizes (x.kids.drop 1) ≤ f) := Lib.hid (by rw [hda]; omega)
  have HRS := Lib.hid hrs
  have HAL : Hid ((x.kids.drop 1).length = n1) := Lib.hid (by rw [hda]; exact hal)
  unfold ndV at hrc ⊢
  rw [hnk, hpk]
  rw [hpk] at hsl
  have hbe : Below w.heap.size w (w.alloc (.cells #[.int .i64 x.kind, .string x.text, .int .i64 x.num, .slice q.pn x.names.length q.cn, .slice q.pt x.temps.length q.ct, .slice (some ⟨b, off, none⟩) nk q.ck] 25)) := (Below.refl _ _).alloc (Nat.le_refl _) _
  have HX : Hid (CT w0 (fun k => P k ∨ (w.heap.size ≤ k ∧ k < (w.alloc (.cells #[.int .i64 x.kind, .string x.text, .int .i64 x.num, .slice q.pn x.names.length q.cn, .slice q.pt x.temps.length q.ct, .slice (some ⟨b, off, none⟩) nk q.ck] 25)).heap.size)) (w.alloc (.cells #[.int .i64 x.kind, .string x.text, .int .i64 x.num, .slice q.pn x.names.length q.cn, .slice q.pt x.temps.length q.ct, .slice (some ⟨b, off, none⟩) nk q.ck] 25)) (w.alloc (.cells #[.int .i64 x.kind, .string x.text, .int .i64 x.num, .slice q.pn x.names.length q.cn, .slice q.pt x.temps.length q.ct, .slice (some ⟨b, off, none⟩) nk q.ck] 25)) cb m s) := Lib.hid (HH.out.keep hbe).ct
  have HXB : Hid ((w.alloc (.cells #[.int .i64 x.kind, .string x.text, .int .i64 x.num, .slice q.pn x.names.length q.cn, .slice q.pt x.temps.length q.ct, .slice (some ⟨b, off, none⟩) nk q.ck] 25)).heap[w.heap.size]? = some (.cells #[.int .i64 x.kind, .string x.text, .int .i64 x.num, .slice q.pn x.names.length q.cn, .slice q.pt x.temps.length q.ct, .slice (some ⟨b, off, none⟩) nk q.ck] 25 (0, 0))) := Lib.hid (heap_alloc_new w _)
  have HBX := Lib.hid (lt_of_block HXB.out)
  have HTS : Hid (Turns (outP P) w (w.alloc (.cells #[.int .i64 x.kind, .string x.text, .int .i64 x.num, .slice q.pn x.names.length q.cn, .slice q.pt x.temps.length q.ct, .slice (some ⟨b, off, none⟩) nk q.ck] 25))) := Lib.hid (Turns.of_below hbe)
  obtain ⟨Pk, hPk⟩ : ∃ Pk : Nat → Prop, (fun k => P k ∨ (w.heap.size ≤ k ∧ k < (w.alloc (.cells #[.int .i64 x.kind, .string x.text, .int .i64 x.num, .slice q.pn x.names.length q.cn, .slice q.pt x.temps.length q.ct, .slice (some ⟨b, off, none⟩) nk q.ck] 25)).heap.size)) = Pk := ⟨_, rfl⟩
  rw [hPk] at HX
  have HPX : Hid (Pk w.heap.size) := Lib.hid (by rw [← hPk]; exact .inr ⟨Nat.le_refl _, HBX.out⟩)
  have HSUB : Hid (∀ k, P k → Pk k) := Lib.hid (fun k z => by rw [← hPk]; exact .inl z)
  have HK0 := Lib.hid hc0
  have HBL := Lib.hid hbl
  have HRC : Hid (∀ {P' : Nat → Prop} {ws w1 W : World}, CT w0 P' ws w1 cb m s → Below w1.heap.size w1 W → _) := Lib.hid hrc
  have hle1 : n1 ≤ 9223372036854775806 := by omega
  have g1 : (0 : Int) < (nk : Int) := by omega
  have g2 : 0 < nk := by omega
  have t1 : decide ((nk : Int) < 2) = false := decide_eq_false (by omega)
  have t2 : decide (nk < 2) = false := decide_eq_false (by omega)
  have t3 : ¬ ((nk : Int) < 2) := by omega
  have hwl : IntKind.i64.wrap ((nk : Int) - 1) = (n1 : Int) := by rw [IntKind.wrap_i64]; omega
  have hk0 := HK0.out.same (HX.out.1.stat.block b HBL.out)
  have d0 := hk0.c0
  have d1 := hk0.c1
  have d2 := hk0.c2
  have d3 := hk0.c3
  have d4 := hk0.c4
  have d5 := hk0.c5
  have hb9 : b < (w.alloc (.cells #[.int .i64 x.kind, .string x.text, .int .i64 x.num, .slice q.pn x.names.length q.cn, .slice q.pt x.temps.length q.ct, .slice (some ⟨b, off, none⟩) nk q.ck] 25)).heap.size := Nat.lt_of_lt_of_le HBL.out HX.out.1.stat.size
  clear hk0
  clear h hn hv hx hf hl hks hda hnk hokl hsz hpk hbl hc0 hn0 hrs hop hs1 hgr hkp hrc hbe hPk hlt2 hn1 hal
  go_enter Try.func60, Try.ntmps60
  go_wp2_with (first | (go_at_call 74; (with_reducible refine (HRC.out HX.out bel).mono ?_); rintro e w4 ⟨rfl, hx3⟩; have HX4 := Lib.hid hx3; have xb9 := (hx3.2.block w.heap.size HBX.out (fun z => z HPX.out)).trans HXB.out; have e5 : w4.cell? ⟨w.heap.size, 5, none⟩ = some (.slice (some ⟨b, off, none⟩) nk q.ck) := cell_in xb9 rfl; clear xb9; clear hx3))
  go_loopw [28] (fun i wr => ∃ (k : Nat) (sk : CSt), i = .int .i64 k ∧ k ≤ n1 ∧ CT w0 Pk (w.alloc (.cells #[.int .i64 x.kind, .string x.text, .int .i64 x.num, .slice q.pn x.names.length q.cn, .slice q.pt x.temps.length q.ct, .slice (some ⟨b, off, none⟩) nk q.ck] 25)) wr cb m sk ∧ cascsP (valP f) op (x.kids.drop 1) s1 = cascsP (valP f) op ((x.kids.drop 1).drop k) sk ∧ (sk.code.length + 8 * NodT.sizes ((x.kids.drop 1).drop k) ≤ 1000000 ∧ sk.lits.length + NodT.sizes ((x.kids.drop 1).drop k) ≤ 100000)) (fun i _ => n1 - (intOf i).toNat)
  case atStart => exact ⟨0, s1, rfl, Nat.zero_le _, HX4.out, rfl, HRM0.out⟩
  case round =>
   obtain ⟨k, sk, rfl, hk, hct, hde, hrm⟩ := hrel
   have HX := Lib.hid hct
   have HD := Lib.hid hde
   have HRM := Lib.hid hrm
   clear hct hde hrm d0 d1 d2 d3 d4 d5 hb9 e5
   by_cases hlt : k < n1
   ·have d1 : decide (k < n1) = true := decide_eq_true hlt
    have d2 : decide ((k : Int) < (n1 : Int)) = true := decide_eq_true (by omega)
    have hkl : k < (x.kids.drop 1).length := by rw [HAL.out]; exact hlt
    obtain ⟨b', off', q', rfl, hbl, hc6, hkd⟩ := HRS.out k hkl
    have hsz := sizes_drop_eq (x.kids.drop 1) k hkl
    have hst := HX.out.1.stat
    have hc6w := hc6.same (hst.block b' hbl)
    have hsk : ((x.kids.drop 1)[k]).size ≤ f := Nat.le_trans (sizes_drop (x.kids.drop 1) k hkl) HXS.out
    have hdr : (x.kids.drop 1).drop k = (x.kids.drop 1)[k] :: (x.kids.drop 1).drop (k + 1) := List.drop_eq_getElem_cons hkl
    obtain ⟨kd, hkx⟩ : ∃ kd, (x.kids.drop 1)[k] = kd := ⟨_, rfl⟩
    rw [hkx] at hc6w hkd hsz hsk hdr
    have HSZ := Lib.hid hsz
    have HSK := Lib.hid hsk
    have HDR := Lib.hid hdr
    have HKD := Lib.hid hkd
    have HLT := Lib.hid hlt
    have hbw : b' < wr.heap.size := Nat.lt_of_lt_of_le hbl hst.size
    have c0 := hc6w.c0
    have c1 := hc6w.c1
    have c2 := hc6w.c2
    have c3 := hc6w.c3
    have c4 := hc6w.c4
    have c5 := hc6w.c5
    have g0 : (0 : Int) ≤ (k : Int) := by omega
    have g3 : (k : Int) < (n1 : Int) := by omega
    have hwk : IntKind.i64.wrap ((k : Int) + 1) = (k : Int) + 1 := by rw [IntKind.wrap_i64]; omega
    have hbe : Below wr.heap.size wr (wr.alloc (.cells #[.int .i64 kd.kind, .string kd.text, .int .i64 kd.num, .slice q'.pn kd.names.length q'.cn, .slice q'.pt kd.temps.length q'.ct, .slice q'.pk kd.kids.length q'.ck] 25)) := (Below.refl _ _).alloc (Nat.le_refl _) _
    have hk5 := HX.out.1.keep hbe
    have hb5 : (wr.alloc (.cells #[.int .i64 kd.kind, .string kd.text, .int .i64 kd.num, .slice q'.pn kd.names.length q'.cn, .slice q'.pt kd.temps.length q'.ct, .slice q'.pk kd.kids.length q'.ck] 25)).heap[wr.heap.size]? = some (.cells #[.int .i64 kd.kind, .string kd.text, .int .i64 kd.num, .slice q'.pn kd.names.length q'.cn, .slice q'.pt kd.temps.length q'.ct, .slice q'.pk kd.kids.length q'.ck] 25 (0, 0)) := heap_alloc_new wr _
    have hin5 : wr.heap.size ≤ wr.heap.size ∧ wr.heap.size < (wr.alloc (.cells #[.int .i64 kd.kind, .string kd.text, .int .i64 kd.num, .slice q'.pn kd.names.length q'.cn, .slice q'.pt kd.temps.length q'.ct, .slice q'.pk kd.kids.length q'.ck] 25)).heap.size := ⟨Nat.le_refl _, lt_of_block hb5⟩
    have HWB0 := Lib.hid hbe
    have HK50 := Lib.hid hk5
    have HB50 := Lib.hid hb5
    have HIN50 := Lib.hid hin5
    clear hbe hk5 hb5 hin5
    clear hst hc6 hc6w hkd hsz hsk hdr hkx hkl hlt
    go_upto_region 8 with fail
    have hbe := HWB0.out
    have hk5 := HK50.out
    have hb5 := HB50.out
    have hin5 := HIN50.out
    obtain ⟨wb, hwb⟩ : ∃ wb, (wr.alloc (.cells #[.int .i64 kd.kind, .string kd.text, .int .i64 kd.num, .slice q'.pn kd.names.length q'.cn, .slice q'.pt kd.temps.length q'.ct, .slice q'.pk kd.kids.length q'.ck] 25)) = wb := ⟨_, rfl⟩
    rw [hwb] at hbe hk5 hb5 hin5 ⊢
    have HWB := Lib.hid hbe
    have HK5 := Lib.hid hk5
    have HB5 := Lib.hid hb5
    have HIN5 : Hid ((fun j => Pk j ∨ wr.heap.size ≤ j ∧ j < wb.heap.size) wr.heap.size) := Lib.hid (.inr hin5)
    have yb9 := HB5.out
    have y0 : wb.cell? ⟨wr.heap.size, 0, none⟩ = some (.int .i64 kd.kind) := cell_in yb9 rfl
    have y1 : wb.cell? ⟨wr.heap.size, 1, none⟩ = some (.string kd.text) := cell_in yb9 rfl
    have y5 : wb.cell? ⟨wr.heap.size, 5, none⟩ = some (.slice q'.pk kd.kids.length q'.ck) := cell_in yb9 rfl
    clear yb9
    clear hbe hk5 hb5 hin5 hwb HWB0 HK50 HB50 HIN50
    by_cases e7 : kd.kind = 7
    ·have q1 : (kd.kind == 7) = true := by simpa using e7
     by_cases em : k + 1 < n1
     ·have m1 : decide ((k : Int) + 1 < (n1 : Int)) = true := decide_eq_true (by omega)
      have m2 : (k : Int) + 1 < (n1 : Int) := by omega
      have ea1 : (sk).code = sk.code := rfl
      have ea2 : (sk).lits = sk.lits := rfl
      have eb1 : ((emitP sk 13 0 0)).code.length = sk.code.length + 1 := by rw [emit_code, ea1]
      have eb2 : ((emitP sk 13 0 0)).lits = sk.lits := by rw [emit_lits, ea2]
      have hgr := messP_gr (valP_gr f) op kd.text kd.kids (emitP sk 13 0 0) (by have h2 := HSK.out; have h9 := kd.size_kids; omega)
      have hmc : ∀ {wa W : World}, CT w0 (fun j => Pk j ∨ wr.heap.size ≤ j ∧ j < wb.heap.size) wb wa cb m (emitP sk 13 0 0) → Below wa.heap.size wa W → Calls Try.prog 73 #[.pointer (some ⟨cb, 0, none⟩), .int .i64 op, .string kd.text, .slice q'.pk kd.kids.length q'.ck] W fun e w' => e = .returned (.tuple #[]) ∧ CT w0 (fun j => Pk j ∨ wr.heap.size ≤ j ∧ j < wb.heap.size) wb w' cb m (messP (valP f) op kd.text kd.kids (emitP sk 13 0 0)) := fun hc hb => by
       have h2 := hc.below hb
       refine (message_any HV.out h2.1 HKD.out.rows rfl (by have h9 := HKD.out.ok.klen; unfold maxLen at h9; omega) op kd.text HKD.out.ok.text (by have h2 := HSK.out; have h9 := kd.size_kids; omega) (by have h9 := kd.size_kids; have h1 := HRM.out; have h3 := HSZ.out; rw [eb1]; omega) (by have h9 := kd.size_kids; have h1 := HRM.out; have h3 := HSZ.out; rw [eb2]; omega)).mono ?_
       rintro e w' ⟨he, hc⟩
       exact ⟨he, h2.go hc⟩
      have HMC : Hid (∀ {wa W : World}, CT w0 (fun j => Pk j ∨ wr.heap.size ≤ j ∧ j < wb.heap.size) wb wa cb m (emitP sk 13 0 0) → Below wa.heap.size wa W → _) := Lib.hid hmc
      have HF5 : Hid ((sk).code.length ≤ 1000000) := Lib.hid (by rw [ea1]; have h1 := HRM.out; omega)
      have HF8 : Hid (((messP (valP f) op kd.text kd.kids (emitP sk 13 0 0))).code.length ≤ 1000000) := Lib.hid (by have h0 := hgr.code; have h1 := HRM.out; have h2 := HSZ.out; have h9 := kd.size_kids; rw [eb1] at h0; omega)
      have HG : Hid (((emitP (messP (valP f) op kd.text kd.kids (emitP sk 13 0 0)) 12 0 0)).code.length + 8 * NodT.sizes ((x.kids.drop 1).drop (k + 1)) ≤ 1000000 ∧ ((emitP (messP (valP f) op kd.text kd.kids (emitP sk 13 0 0)) 12 0 0)).lits.length + NodT.sizes ((x.kids.drop 1).drop (k + 1)) ≤ 100000) := Lib.hid (by
       have h0 := hgr.code
       have h4 := hgr.lits
       have h1 := HRM.out
       have h2 := HSZ.out
       have h9 := kd.size_kids
       rw [eb1] at h0
       rw [eb2] at h4
       rw [emit_code, emit_lits]
       exact ⟨by omega, by omega⟩)
      have HNX : Hid (cascsP (valP f) op (kd :: (x.kids.drop 1).drop (k + 1)) sk = cascsP (valP f) op ((x.kids.drop 1).drop (k + 1)) (emitP (messP (valP f) op kd.text kd.kids (emitP sk 13 0 0)) 12 0 0)) := Lib.hid (by
       rw [cascs_cons, show (if kd.kind ≠ 7 then failP sk eB 1 else sk) = sk from if_neg (fun z => z e7)]
       have hl9 : ((x.kids.drop 1).drop (k + 1)).length = n1 - (k + 1) := by rw [List.length_drop, HAL.out]
       have hk9 := HLT.out
       rw [if_neg (by omega)]
       )
      clear hmc hgr ea1 ea2 eb1 eb2 e7
      go_wp2_with (first | (go_at_call 45; (with_reducible refine (emit_at HK5.out.ct bel 13 0 0 HF5.out).mono ?_); rintro e w7 ⟨rfl, hx3⟩; have HX7 := Lib.hid hx3; have yb9 := (hx3.2.block wr.heap.size (lt_of_block HB5.out) (fun z => z HIN5.out)).trans HB5.out; have y0 : w7.cell? ⟨wr.heap.size, 0, none⟩ = some (.int .i64 kd.kind) := cell_in yb9 rfl; have y1 : w7.cell? ⟨wr.heap.size, 1, none⟩ = some (.string kd.text) := cell_in yb9 rfl; have y5 : w7.cell? ⟨wr.heap.size, 5, none⟩ = some (.slice q'.pk kd.kids.length q'.ck) := cell_in yb9 rfl; clear yb9; clear hx3) | (go_at_call 73; (with_reducible refine (HMC.out HX7.out bel).mono ?_); rintro e w8 ⟨rfl, hx3⟩; have HX8 := Lib.hid hx3; have yb9 := (hx3.2.block wr.heap.size (lt_of_block HB5.out) (fun z => z HIN5.out)).trans HB5.out; have y0 : w8.cell? ⟨wr.heap.size, 0, none⟩ = some (.int .i64 kd.kind) := cell_in yb9 rfl; have y1 : w8.cell? ⟨wr.heap.size, 1, none⟩ = some (.string kd.text) := cell_in yb9 rfl; have y5 : w8.cell? ⟨wr.heap.size, 5, none⟩ = some (.slice q'.pk kd.kids.length q'.ck) := cell_in yb9 rfl; clear yb9; clear hx3) | (go_at_call 45; (with_reducible refine (emit_at HX8.out bel 12 0 0 HF8.out).mono ?_); rintro e w9 ⟨rfl, hx3⟩; have HX9 := Lib.hid hx3; have yb9 := (hx3.2.block wr.heap.size (lt_of_block HB5.out) (fun z => z HIN5.out)).trans HB5.out; have y0 : w9.cell? ⟨wr.heap.size, 0, none⟩ = some (.int .i64 kd.kind) := cell_in yb9 rfl; have y1 : w9.cell? ⟨wr.heap.size, 1, none⟩ = some (.string kd.text) := cell_in yb9 rfl; have y5 : w9.cell? ⟨wr.heap.size, 5, none⟩ = some (.slice q'.pk kd.kids.length q'.ck) := cell_in yb9 rfl; clear yb9; clear hx3))
      go_roundw
      case rel => exact ⟨k + 1, (emitP (messP (valP f) op kd.text kd.kids (emitP sk 13 0 0)) 12 0 0), by go_num, HLT.out, HX.out.back HWB.out HX9.out (fun k z => .inl z), by rw [HD.out, HDR.out, HNX.out], HG.out⟩
      case measure => simp [intOf]; have := HLT.out; omega
     ·have m1 : decide ((k : Int) + 1 < (n1 : Int)) = false := decide_eq_false (by omega)
      have m2 : ¬ ((k : Int) + 1 < (n1 : Int)) := by omega
      have ea1 : (sk).code = sk.code := rfl
      have ea2 : (sk).lits = sk.lits := rfl
      have eb1 : (sk).code.length = sk.code.length + 0 := by rw [ea1]; rfl
      have eb2 : (sk).lits = sk.lits := by rw [ea2]
      have hgr := messP_gr (valP_gr f) op kd.text kd.kids sk (by have h2 := HSK.out; have h9 := kd.size_kids; omega)
      have hmc : ∀ {wa W : World}, CT w0 (fun j => Pk j ∨ wr.heap.size ≤ j ∧ j < wb.heap.size) wb wa cb m sk → Below wa.heap.size wa W → Calls Try.prog 73 #[.pointer (some ⟨cb, 0, none⟩), .int .i64 op, .string kd.text, .slice q'.pk kd.kids.length q'.ck] W fun e w' => e = .returned (.tuple #[]) ∧ CT w0 (fun j => Pk j ∨ wr.heap.size ≤ j ∧ j < wb.heap.size) wb w' cb m (messP (valP f) op kd.text kd.kids sk) := fun hc hb => by
       have h2 := hc.below hb
       refine (message_any HV.out h2.1 HKD.out.rows rfl (by have h9 := HKD.out.ok.klen; unfold maxLen at h9; omega) op kd.text HKD.out.ok.text (by have h2 := HSK.out; have h9 := kd.size_kids; omega) (by have h9 := kd.size_kids; have h1 := HRM.out; have h3 := HSZ.out; rw [eb1]; omega) (by have h9 := kd.size_kids; have h1 := HRM.out; have h3 := HSZ.out; rw [eb2]; omega)).mono ?_
       rintro e w' ⟨he, hc⟩
       exact ⟨he, h2.go hc⟩
      have HMC : Hid (∀ {wa W : World}, CT w0 (fun j => Pk j ∨ wr.heap.size ≤ j ∧ j < wb.heap.size) wb wa cb m sk → Below wa.heap.size wa W → _) := Lib.hid hmc
      have HF5 : Hid ((sk).code.length ≤ 1000000) := Lib.hid (by rw [ea1]; have h1 := HRM.out; omega)
      have HF8 : Hid (((messP (valP f) op kd.text kd.kids sk)).code.length ≤ 1000000) := Lib.hid (by have h0 := hgr.code; have h1 := HRM.out; have h2 := HSZ.out; have h9 := kd.size_kids; rw [eb1] at h0; omega)
      have HG : Hid (((messP (valP f) op kd.text kd.kids sk)).code.length + 8 * NodT.sizes ((x.kids.drop 1).drop (k + 1)) ≤ 1000000 ∧ ((messP (valP f) op kd.text kd.kids sk)).lits.length + NodT.sizes ((x.kids.drop 1).drop (k + 1)) ≤ 100000) := Lib.hid (by
       have h0 := hgr.code
       have h4 := hgr.lits
       have h1 := HRM.out
       have h2 := HSZ.out
       have h9 := kd.size_kids
       rw [eb1] at h0
       rw [eb2] at h4
       skip
       exact ⟨by omega, by omega⟩)
      have HNX : Hid (cascsP (valP f) op (kd :: (x.kids.drop 1).drop (k + 1)) sk = cascsP (valP f) op ((x.kids.drop 1).drop (k + 1)) (messP (valP f) op kd.text kd.kids sk)) := Lib.hid (by
       rw [cascs_cons, show (if kd.kind ≠ 7 then failP sk eB 1 else sk) = sk from if_neg (fun z => z e7)]
       have hl9 : ((x.kids.drop 1).drop (k + 1)).length = n1 - (k + 1) := by rw [List.length_drop, HAL.out]
       have hk9 := HLT.out
       have hn9 : (x.kids.drop 1).drop (k + 1) = [] := List.length_eq_zero_iff.1 (by omega)
       rw [if_pos (by rw [hn9]; rfl), hn9]; rfl)
      clear hmc hgr ea1 ea2 eb1 eb2 e7
      go_wp2_with (first | (go_at_call 73; (with_reducible refine (HMC.out HK5.out.ct bel).mono ?_); rintro e w8 ⟨rfl, hx3⟩; have HX8 := Lib.hid hx3; have yb9 := (hx3.2.block wr.heap.size (lt_of_block HB5.out) (fun z => z HIN5.out)).trans HB5.out; have y0 : w8.cell? ⟨wr.heap.size, 0, none⟩ = some (.int .i64 kd.kind) := cell_in yb9 rfl; have y1 : w8.cell? ⟨wr.heap.size, 1, none⟩ = some (.string kd.text) := cell_in yb9 rfl; have y5 : w8.cell? ⟨wr.heap.size, 5, none⟩ = some (.slice q'.pk kd.kids.length q'.ck) := cell_in yb9 rfl; clear yb9; clear hx3))
      go_roundw
      case rel => exact ⟨k + 1, (messP (valP f) op kd.text kd.kids sk), by go_num, HLT.out, HX.out.back HWB.out HX8.out (fun k z => .inl z), by rw [HD.out, HDR.out, HNX.out], HG.out⟩
      case measure => simp [intOf]; have := HLT.out; omega
    ·have q1 : (kd.kind == 7) = false := by simpa using e7
     by_cases em : k + 1 < n1
     ·have m1 : decide ((k : Int) + 1 < (n1 : Int)) = true := decide_eq_true (by omega)
      have m2 : (k : Int) + 1 < (n1 : Int) := by omega
      have ea1 : ((failP sk eB 1)).code = sk.code := fail_code _ _ _
      have ea2 : ((failP sk eB 1)).lits = sk.lits := fail_lits _ _ _
      have eb1 : ((emitP (failP sk eB 1) 13 0 0)).code.length = sk.code.length + 1 := by rw [emit_code, ea1]
      have eb2 : ((emitP (failP sk eB 1) 13 0 0)).lits = sk.lits := by rw [emit_lits, ea2]
      have hgr := messP_gr (valP_gr f) op kd.text kd.kids (emitP (failP sk eB 1) 13 0 0) (by have h2 := HSK.out; have h9 := kd.size_kids; omega)
      have hmc : ∀ {wa W : World}, CT w0 (fun j => Pk j ∨ wr.heap.size ≤ j ∧ j < wb.heap.size) wb wa cb m (emitP (failP sk eB 1) 13 0 0) → Below wa.heap.size wa W → Calls Try.prog 73 #[.pointer (some ⟨cb, 0, none⟩), .int .i64 op, .string kd.text, .slice q'.pk kd.kids.length q'.ck] W fun e w' => e = .returned (.tuple #[]) ∧ CT w0 (fun j => Pk j ∨ wr.heap.size ≤ j ∧ j < wb.heap.size) wb w' cb m (messP (valP f) op kd.text kd.kids (emitP (failP sk eB 1) 13 0 0)) := fun hc hb => by
       have h2 := hc.below hb
       refine (message_any HV.out h2.1 HKD.out.rows rfl (by have h9 := HKD.out.ok.klen; unfold maxLen at h9; omega) op kd.text HKD.out.ok.text (by have h2 := HSK.out; have h9 := kd.size_kids; omega) (by have h9 := kd.size_kids; have h1 := HRM.out; have h3 := HSZ.out; rw [eb1]; omega) (by have h9 := kd.size_kids; have h1 := HRM.out; have h3 := HSZ.out; rw [eb2]; omega)).mono ?_
       rintro e w' ⟨he, hc⟩
       exact ⟨he, h2.go hc⟩
      have HMC : Hid (∀ {wa W : World}, CT w0 (fun j => Pk j ∨ wr.heap.size ≤ j ∧ j < wb.heap.size) wb wa cb m (emitP (failP sk eB 1) 13 0 0) → Below wa.heap.size wa W → _) := Lib.hid hmc
      have HF5 : Hid (((failP sk eB 1)).code.length ≤ 1000000) := Lib.hid (by rw [ea1]; have h1 := HRM.out; omega)
      have HF8 : Hid (((messP (valP f) op kd.text kd.kids (emitP (failP sk eB 1) 13 0 0))).code.length ≤ 1000000) := Lib.hid (by have h0 := hgr.code; have h1 := HRM.out; have h2 := HSZ.out; have h9 := kd.size_kids; rw [eb1] at h0; omega)
      have HG : Hid (((emitP (messP (valP f) op kd.text kd.kids (emitP (failP sk eB 1) 13 0 0)) 12 0 0)).code.length + 8 * NodT.sizes ((x.kids.drop 1).drop (k + 1)) ≤ 1000000 ∧ ((emitP (messP (valP f) op kd.text kd.kids (emitP (failP sk eB 1) 13 0 0)) 12 0 0)).lits.length + NodT.sizes ((x.kids.drop 1).drop (k + 1)) ≤ 100000) := Lib.hid (by
       have h0 := hgr.code
       have h4 := hgr.lits
       have h1 := HRM.out
       have h2 := HSZ.out
       have h9 := kd.size_kids
       rw [eb1] at h0
       rw [eb2] at h4
       rw [emit_code, emit_lits]
       exact ⟨by omega, by omega⟩)
      have HNX : Hid (cascsP (valP f) op (kd :: (x.kids.drop 1).drop (k + 1)) sk = cascsP (valP f) op ((x.kids.drop 1).drop (k + 1)) (emitP (messP (valP f) op kd.text kd.kids (emitP (failP sk eB 1) 13 0 0)) 12 0 0)) := Lib.hid (by
       rw [cascs_cons, show (if kd.kind ≠ 7 then failP sk eB 1 else sk) = (failP sk eB 1) from if_pos e7]
       have hl9 : ((x.kids.drop 1).drop (k + 1)).length = n1 - (k + 1) := by rw [List.length_drop, HAL.out]
       have hk9 := HLT.out
       rw [if_neg (by omega)]
       )
      clear hmc hgr ea1 ea2 eb1 eb2 e7
      go_wp2_with (first | (go_at_call 54; (with_reducible refine (fail_at HK5.out.ct bel eB (by decide) 1).mono ?_); rintro e w6 ⟨rfl, hx3⟩; have HX6 := Lib.hid hx3; have yb9 := (hx3.2.block wr.heap.size (lt_of_block HB5.out) (fun z => z HIN5.out)).trans HB5.out; have y0 : w6.cell? ⟨wr.heap.size, 0, none⟩ = some (.int .i64 kd.kind) := cell_in yb9 rfl; have y1 : w6.cell? ⟨wr.heap.size, 1, none⟩ = some (.string kd.text) := cell_in yb9 rfl; have y5 : w6.cell? ⟨wr.heap.size, 5, none⟩ = some (.slice q'.pk kd.kids.length q'.ck) := cell_in yb9 rfl; clear yb9; clear hx3) | (go_at_call 45; (with_reducible refine (emit_at HX6.out bel 13 0 0 HF5.out).mono ?_); rintro e w7 ⟨rfl, hx3⟩; have HX7 := Lib.hid hx3; have yb9 := (hx3.2.block wr.heap.size (lt_of_block HB5.out) (fun z => z HIN5.out)).trans HB5.out; have y0 : w7.cell? ⟨wr.heap.size, 0, none⟩ = some (.int .i64 kd.kind) := cell_in yb9 rfl; have y1 : w7.cell? ⟨wr.heap.size, 1, none⟩ = some (.string kd.text) := cell_in yb9 rfl; have y5 : w7.cell? ⟨wr.heap.size, 5, none⟩ = some (.slice q'.pk kd.kids.length q'.ck) := cell_in yb9 rfl; clear yb9; clear hx3) | (go_at_call 73; (with_reducible refine (HMC.out HX7.out bel).mono ?_); rintro e w8 ⟨rfl, hx3⟩; have HX8 := Lib.hid hx3; have yb9 := (hx3.2.block wr.heap.size (lt_of_block HB5.out) (fun z => z HIN5.out)).trans HB5.out; have y0 : w8.cell? ⟨wr.heap.size, 0, none⟩ = some (.int .i64 kd.kind) := cell_in yb9 rfl; have y1 : w8.cell? ⟨wr.heap.size, 1, none⟩ = some (.string kd.text) := cell_in yb9 rfl; have y5 : w8.cell? ⟨wr.heap.size, 5, none⟩ = some (.slice q'.pk kd.kids.length q'.ck) := cell_in yb9 rfl; clear yb9; clear hx3) | (go_at_call 45; (with_reducible refine (emit_at HX8.out bel 12 0 0 HF8.out).mono ?_); rintro e w9 ⟨rfl, hx3⟩; have HX9 := Lib.hid hx3; have yb9 := (hx3.2.block wr.heap.size (lt_of_block HB5.out) (fun z => z HIN5.out)).trans HB5.out; have y0 : w9.cell? ⟨wr.heap.size, 0, none⟩ = some (.int .i64 kd.kind) := cell_in yb9 rfl; have y1 : w9.cell? ⟨wr.heap.size, 1, none⟩ = some (.string kd.text) := cell_in yb9 rfl; have y5 : w9.cell? ⟨wr.heap.size, 5, none⟩ = some (.slice q'.pk kd.kids.length q'.ck) := cell_in yb9 rfl; clear yb9; clear hx3))
      go_roundw
      case rel => exact ⟨k + 1, (emitP (messP (valP f) op kd.text kd.kids (emitP (failP sk eB 1) 13 0 0)) 12 0 0), by go_num, HLT.out, HX.out.back HWB.out HX9.out (fun k z => .inl z), by rw [HD.out, HDR.out, HNX.out], HG.out⟩
      case measure => simp [intOf]; have := HLT.out; omega
     ·have m1 : decide ((k : Int) + 1 < (n1 : Int)) = false := decide_eq_false (by omega)
      have m2 : ¬ ((k : Int) + 1 < (n1 : Int)) := by omega
      have ea1 : ((failP sk eB 1)).code = sk.code := fail_code _ _ _
      have ea2 : ((failP sk eB 1)).lits = sk.lits := fail_lits _ _ _
      have eb1 : ((failP sk eB 1)).code.length = sk.code.length + 0 := by rw [ea1]; rfl
      have eb2 : ((failP sk eB 1)).lits = sk.lits := by rw [ea2]
      have hgr := messP_gr (valP_gr f) op kd.text kd.kids (failP sk eB 1) (by have h2 := HSK.out; have h9 := kd.size_kids; omega)
      have hmc : ∀ {wa W : World}, CT w0 (fun j => Pk j ∨ wr.heap.size ≤ j ∧ j < wb.heap.size) wb wa cb m (failP sk eB 1) → Below wa.heap.size wa W → Calls Try.prog 73 #[.pointer (some ⟨cb, 0, none⟩), .int .i64 op, .string kd.text, .slice q'.pk kd.kids.length q'.ck] W fun e w' => e = .returned (.tuple #[]) ∧ CT w0 (fun j => Pk j ∨ wr.heap.size ≤ j ∧ j < wb.heap.size) wb w' cb m (messP (valP f) op kd.text kd.kids (failP sk eB 1)) := fun hc hb => by
       have h2 := hc.below hb
       refine (message_any HV.out h2.1 HKD.out.rows rfl (by have h9 := HKD.out.ok.klen; unfold maxLen at h9; omega) op kd.text HKD.out.ok.text (by have h2 := HSK.out; have h9 := kd.size_kids; omega) (by have h9 := kd.size_kids; have h1 := HRM.out; have h3 := HSZ.out; rw [eb1]; omega) (by have h9 := kd.size_kids; have h1 := HRM.out; have h3 := HSZ.out; rw [eb2]; omega)).mono ?_
       rintro e w' ⟨he, hc⟩
       exact ⟨he, h2.go hc⟩
      have HMC : Hid (∀ {wa W : World}, CT w0 (fun j => Pk j ∨ wr.heap.size ≤ j ∧ j < wb.heap.size) wb wa cb m (failP sk eB 1) → Below wa.heap.size wa W → _) := Lib.hid hmc
      have HF5 : Hid (((failP sk eB 1)).code.length ≤ 1000000) := Lib.hid (by rw [ea1]; have h1 := HRM.out; omega)
      have HF8 : Hid (((messP (valP f) op kd.text kd.kids (failP sk eB 1))).code.length ≤ 1000000) := Lib.hid (by have h0 := hgr.code; have h1 := HRM.out; have h2 := HSZ.out; have h9 := kd.size_kids; rw [eb1] at h0; omega)
      have HG : Hid (((messP (valP f) op kd.text kd.kids (failP sk eB 1))).code.length + 8 * NodT.sizes ((x.kids.drop 1).drop (k + 1)) ≤ 1000000 ∧ ((messP (valP f) op kd.text kd.kids (failP sk eB 1))).lits.length + NodT.sizes ((x.kids.drop 1).drop (k + 1)) ≤ 100000) := Lib.hid (by
       have h0 := hgr.code
       have h4 := hgr.lits
       have h1 := HRM.out
       have h2 := HSZ.out
       have h9 := kd.size_kids
       rw [eb1] at h0
       rw [eb2] at h4
       skip
       exact ⟨by omega, by omega⟩)
      have HNX : Hid (cascsP (valP f) op (kd :: (x.kids.drop 1).drop (k + 1)) sk = cascsP (valP f) op ((x.kids.drop 1).drop (k + 1)) (messP (valP f) op kd.text kd.kids (failP sk eB 1))) := Lib.hid (by
       rw [cascs_cons, show (if kd.kind ≠ 7 then failP sk eB 1 else sk) = (failP sk eB 1) from if_pos e7]
       have hl9 : ((x.kids.drop 1).drop (k + 1)).length = n1 - (k + 1) := by rw [List.length_drop, HAL.out]
       have hk9 := HLT.out
       have hn9 : (x.kids.drop 1).drop (k + 1) = [] := List.length_eq_zero_iff.1 (by omega)
       rw [if_pos (by rw [hn9]; rfl), hn9]; rfl)
      clear hmc hgr ea1 ea2 eb1 eb2 e7
      go_wp2_with (first | (go_at_call 54; (with_reducible refine (fail_at HK5.out.ct bel eB (by decide) 1).mono ?_); rintro e w6 ⟨rfl, hx3⟩; have HX6 := Lib.hid hx3; have yb9 := (hx3.2.block wr.heap.size (lt_of_block HB5.out) (fun z => z HIN5.out)).trans HB5.out; have y0 : w6.cell? ⟨wr.heap.size, 0, none⟩ = some (.int .i64 kd.kind) := cell_in yb9 rfl; have y1 : w6.cell? ⟨wr.heap.size, 1, none⟩ = some (.string kd.text) := cell_in yb9 rfl; have y5 : w6.cell? ⟨wr.heap.size, 5, none⟩ = some (.slice q'.pk kd.kids.length q'.ck) := cell_in yb9 rfl; clear yb9; clear hx3) | (go_at_call 73; (with_reducible refine (HMC.out HX6.out bel).mono ?_); rintro e w8 ⟨rfl, hx3⟩; have HX8 := Lib.hid hx3; have yb9 := (hx3.2.block wr.heap.size (lt_of_block HB5.out) (fun z => z HIN5.out)).trans HB5.out; have y0 : w8.cell? ⟨wr.heap.size, 0, none⟩ = some (.int .i64 kd.kind) := cell_in yb9 rfl; have y1 : w8.cell? ⟨wr.heap.size, 1, none⟩ = some (.string kd.text) := cell_in yb9 rfl; have y5 : w8.cell? ⟨wr.heap.size, 5, none⟩ = some (.slice q'.pk kd.kids.length q'.ck) := cell_in yb9 rfl; clear yb9; clear hx3))
      go_roundw
      case rel => exact ⟨k + 1, (messP (valP f) op kd.text kd.kids (failP sk eB 1)), by go_num, HLT.out, HX.out.back HWB.out HX8.out (fun k z => .inl z), by rw [HD.out, HDR.out, HNX.out], HG.out⟩
      case measure => simp [intOf]; have := HLT.out; omega
   ·have hkn : k = n1 := by omega
    have d1 : decide (k < n1) = false := decide_eq_false hlt
    have d2 : decide ((k : Int) < (n1 : Int)) = false := decide_eq_false (by omega)
    clear hlt
    have HD0 : Hid (cascsP (valP f) op (x.kids.drop 1) s1 = sk) := Lib.hid (by rw [HD.out, hkn, ← HAL.out, List.drop_length]; rfl)
    subst hkn
    go_wp2_with fail
    go_returns
    rw [HST.out, HD0.out]
    exact ⟨rfl, CT.deep HTS.out HX.out HSUB.out HH.out.low⟩
end Go.Proofs.Ytnojndgmgkgnpaa

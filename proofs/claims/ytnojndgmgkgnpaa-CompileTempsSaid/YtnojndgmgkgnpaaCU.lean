/- Chapter 10: the walk of any node. -/
import Derived.Test.YtnojndgmgkgnpaaCS
import Derived.Test.YtnojndgmgkgnpaaCM
import Derived.Test.YtnojndgmgkgnpaaCH
namespace Go.Proofs.Ytnojndgmgkgnpaa
open Go.ChangeShapes Go.WideShapes Go.ChangeAt Go.RowKit Go.Deep Go.Joins Go.Maps
set_option linter.unusedVariables false
set_option linter.unusedSimpArgs false
mutual
theorem litP_temps : ∀ (x : NodT) (s : CSt), (litP x s).2.temps = s.temps
 | .node k t n _ _ ks, s => by
  unfold litP
  split
  ·rfl
  split
  ·rfl
  split
  ·rfl
  split
  ·exact litsP_temps ks s
  ·unfold failP; split <;> rfl
theorem litsP_temps : ∀ (l : List NodT) (s : CSt), (litsP l s).2.temps = s.temps
 | [], s => rfl
 | x :: r, s => by
  unfold litsP
  exact (litsP_temps r _).trans (litP_temps x s)
end
theorem assign_at {f : Nat} (hv : VSpec f) {w0 ws w1 w : World} {P : Nat → Prop} {cb : Nat} {m : MK} {s : CSt} (h : CT w0 P ws w1 cb m s) (hb : Below w1.heap.size w1 w) {x : NodT} {q : NS} (hn : IsNd w0 (fun _ => True) x q) (hx : x.size ≤ f + 1) (hf : s.code.length + 8 * x.size ≤ 1000000) (hl : s.lits.length + x.size ≤ 100000) : Calls Try.prog 58 #[.pointer (some ⟨cb, 0, none⟩), ndV x q] w fun e w' => e = .returned (.tuple #[]) ∧ CT w0 P ws w' cb m (assignP (valP f) x s) := by
 have h2 := h.below hb
 refine (assign_any hv h2.1 hn hx hf hl).mono ?_
 rintro e w' ⟨he, hc⟩
 exact ⟨he, h2.go hc⟩
theorem send_at {f : Nat} (hv : VSpec f) {w0 ws w1 w : World} {P : Nat → Prop} {cb : Nat} {m : MK} {s : CSt} (h : CT w0 P ws w1 cb m s) (hb : Below w1.heap.size w1 w) {x : NodT} {q : NS} (hn : IsNd w0 (fun _ => True) x q) (hx : x.size ≤ f + 1) (hf : s.code.length + 8 * x.size ≤ 1000000) (hl : s.lits.length + x.size ≤ 100000) : Calls Try.prog 59 #[.pointer (some ⟨cb, 0, none⟩), ndV x q] w fun e w' => e = .returned (.tuple #[]) ∧ CT w0 P ws w' cb m (sendP (valP f) x s) := by
 have h2 := h.below hb
 refine (send_any hv h2.1 hn hx hf hl).mono ?_
 rintro e w' ⟨he, hc⟩
 exact ⟨he, h2.go hc⟩
theorem cascade_at {f : Nat} (hv : VSpec f) {w0 ws w1 w : World} {P : Nat → Prop} {cb : Nat} {m : MK} {s : CSt} (h : CT w0 P ws w1 cb m s) (hb : Below w1.heap.size w1 w) {x : NodT} {q : NS} (hn : IsNd w0 (fun _ => True) x q) (hx : x.size ≤ f + 1) (hf : s.code.length + 8 * x.size ≤ 1000000) (hl : s.lits.length + x.size ≤ 100000) : Calls Try.prog 60 #[.pointer (some ⟨cb, 0, none⟩), ndV x q] w fun e w' => e = .returned (.tuple #[]) ∧ CT w0 P ws w' cb m (cascP (valP f) x s) := by
 have h2 := h.below hb
 refine (cascade_any hv h2.1 hn hx hf hl).mono ?_
 rintro e w' ⟨he, hc⟩
 exact ⟨he, h2.go hc⟩
theorem cell8_of {w0 w : World} {P : Nat → Prop} {cb : Nat} {m : MK} {s : CSt} (h : CX w0 P w cb m s) : w.cell? ⟨cb, 8, none⟩ = some (.int .i64 s.err) := by
 obtain ⟨lv, cv, nv, D, ps, hy, _⟩ := h
 rw [hy.cell]; rfl
theorem cell2_of {w0 w : World} {P : Nat → Prop} {cb : Nat} {m : MK} {s : CSt} (h : CX w0 P w cb m s) {nt : Nat} (hn : s.temps = nt) : w.cell? ⟨cb, 2, none⟩ = some (.int .i64 (nt : Int)) := by
 obtain ⟨lv, cv, nv, D, ps, hy, _⟩ := h
 rw [hy.cell, ← hn]; rfl
set_option maxRecDepth 100000 in
set_option maxHeartbeats 16000000 in
theorem value_any {f : Nat} (hv : VSpec f) : VSpec (f + 1) := by
 intro x hx w0 w P cb m s q h hn hf hl
 have HH := Lib.hid h
 have HN := Lib.hid hn
 have HV := Lib.hid hv
 have HSZ := Lib.hid hx
 have HTX : Hid (x.text.size ≤ big63) := Lib.hid hn.ok.text
 have HBD : Hid (s.code.length + 8 * x.size ≤ 1000000 ∧ s.lits.length + x.size ≤ 100000 ∧ x.size ≤ 100000) := Lib.hid ⟨hf, hl, by omega⟩
 have HF0 : Hid (s.code.length ≤ 1000000) := Lib.hid (by omega)
 have HL0 : Hid (s.lits.length ≤ 100000) := Lib.hid (by omega)
 have HX0 : Hid (CT w0 P w (w.alloc (.cells #[.int .i64 x.kind, .string x.text, .int .i64 x.num, .slice q.pn x.names.length q.cn, .slice q.pt x.temps.length q.ct, .slice q.pk x.kids.length q.ck] 25)) cb m s) := Lib.hid (h.ct.below ((Below.refl _ _).alloc (Nat.le_refl _) _))
 have k8 : (w.alloc (.cells #[.int .i64 x.kind, .string x.text, .int .i64 x.num, .slice q.pn x.names.length q.cn, .slice q.pt x.temps.length q.ct, .slice q.pk x.kids.length q.ck] 25)).cell? ⟨cb, 8, none⟩ = some (.int .i64 s.err) := cell8_of HX0.out.1
 clear h hn hv hx hf hl
 by_cases her : s.err = 0
 ·have HER := Lib.hid her
  rw [her] at k8
  clear her
  unfold ndV
  by_cases e1 : x.kind = 1
  ·have e := e1
   have q1 : (x.kind == 1) = true := by rw [e]; rfl
   have q2 : (x.kind == 2) = false := by rw [e]; rfl
   have q3 : (x.kind == 3) = false := by rw [e]; rfl
   have q4 : (x.kind == 4) = false := by rw [e]; rfl
   have q5 : (x.kind == 5) = false := by rw [e]; rfl
   have q6 : (x.kind == 6) = false := by rw [e]; rfl
   have q7 : (x.kind == 7) = false := by rw [e]; rfl
   have q8 : (x.kind == 8) = false := by rw [e]; rfl
   have q9 : (x.kind == 9) = false := by rw [e]; rfl
   have q10 : (x.kind == 10) = false := by rw [e]; rfl
   clear e1
   obtain ⟨lv, cv, nv, D, ps, hy, hfw⟩ := HH.out
   have HYB : Hid (CY w0 P (w.alloc (.cells #[.int .i64 x.kind, .string x.text, .int .i64 x.num, .slice q.pn x.names.length q.cn, .slice q.pt x.temps.length q.ct, .slice q.pk x.kids.length q.ck] 25)) cb m s lv cv nv D ps) := Lib.hid (hy.under ((Below.refl _ _).alloc (Nat.le_refl _) _))
   obtain ⟨l, hl0⟩ : ∃ l, (litP x s).1 = l := ⟨_, rfl⟩
   obtain ⟨s1, hs1⟩ : ∃ s1, (litP x s).2 = s1 := ⟨_, rfl⟩
   obtain ⟨g, hg⟩ : ∃ g, (placeP s1 l).1 = g := ⟨_, rfl⟩
   obtain ⟨s2, hs2⟩ : ∃ s2, (placeP s1 l).2 = s2 := ⟨_, rfl⟩
   have HST : Hid (valP (f + 1) x s = emitP s2 6 (g : Int) 0) := Lib.hid (by
    show stepP (valP f) x s = _
    unfold stepP
    rw [if_neg (fun z => z HER.out), if_pos (by rw [e]; decide), hl0, hs1, hg, hs2])
   have hgr := litP_gr x s
   have htm := litP_temps x s
   have hpk := place_keep s1 l
   rw [hs1] at hgr htm
   rw [hs2] at hpk
   have HFW2 : Hid (s2.temps ≤ 24 ∧ s2.names.length ≤ 8 + s2.temps) := Lib.hid (by rw [hpk.1, hpk.2.1, hgr.names, htm]; exact hfw)
   have HLL : Hid (s1.lits.length ≤ 100000) := Lib.hid (by have h1 := hgr.lits; have h2 := HBD.out.2.1; omega)
   have HF4 : Hid (s2.code.length ≤ 1000000) := Lib.hid (by rw [hpk.2.2.1]; have h1 := hgr.code; have h2 := HBD.out.1; omega)
   have HLT0 := Lib.hid hl0
   have HLS0 := Lib.hid hs1
   have HPL := Lib.hid hg
   have HPS := Lib.hid hs2
   have hcall : ∀ W, Below (w.alloc (.cells #[.int .i64 x.kind, .string x.text, .int .i64 x.num, .slice q.pn x.names.length q.cn, .slice q.pt x.temps.length q.ct, .slice q.pk x.kids.length q.ck] 25)).heap.size (w.alloc (.cells #[.int .i64 x.kind, .string x.text, .int .i64 x.num, .slice q.pn x.names.length q.cn, .slice q.pt x.temps.length q.ct, .slice q.pk x.kids.length q.ck] 25)) W → Calls Try.prog 56 #[.pointer (some ⟨cb, 0, none⟩), ndV x q] W (LitPost w0 W P cb m lv cv nv D ps (litP x s).1 (litP x s).2) := fun W hb => lit_any (HYB.out.under hb) HN.out HBD.out.2.2
   rw [hl0, hs1] at hcall
   unfold ndV at hcall
   have HCA := Lib.hid hcall
   clear hy hfw hl0 hs1 hg hs2 hgr htm hpk e hcall
   go_enter Try.func44, Try.ntmps44
   go_wp2_with (first | (go_at_call 56; (with_reducible refine (HCA.out _ bel).mono ?_); rintro e w3 ⟨ql, rfl, hcy, hlt, htu⟩; have HCY := Lib.hid hcy; have HLT := Lib.hid hlt; have HTU := Lib.hid htu; have HDD : Hid (∀ k, madeL (w.alloc (.cells #[.int .i64 x.kind, .string x.text, .int .i64 x.num, .slice q.pn x.names.length q.cn, .slice q.pt x.temps.length q.ct, .slice q.pk x.kids.length q.ck] 25)) w3 k → lv.ownBlock ≠ some k ∧ ∃ cur, w3.heap[k]? = some (.cells cur 40 (0, 0))) := Lib.hid (fun k hk => ⟨(HYB.out.fresh hk.1).2.1, hk.2.2⟩); clear hcy hlt htu) | (go_at_call 55; (with_reducible refine (literal_any HCY.out HLT.out HDD.out HLL.out).mono ?_); rw [HPL.out, HPS.out]; rintro e w4 ⟨rfl, hcy, htu⟩; have HX4 : Hid (CX w0 P w4 cb m s2) := Lib.hid (by obtain ⟨lv', D', ps', hc9⟩ := hcy; exact ⟨lv', _, _, D', ps', hc9, HFW2.out⟩); have HTU4 := Lib.hid htu; clear hcy htu) | (go_at_call 45; (with_reducible refine (emit_at HX4.out.ct bel 6 (g : Int) 0 HF4.out).mono ?_); rintro e w5 ⟨rfl, hx3⟩; have HX5 := Lib.hid hx3; clear hx3))
   go_returns
   rw [HST.out]
   exact ⟨rfl, HX5.out.1, (((Turns.of_below ((Below.refl _ _).alloc (Nat.le_refl _) _)).trans (HTU.out.outOf HYB.out.cbP)).trans HTU4.out).trans HX5.out.2⟩
  by_cases e2 : x.kind = 2
  ·have e := e2
   have q1 : (x.kind == 1) = false := by rw [e]; rfl
   have q2 : (x.kind == 2) = true := by rw [e]; rfl
   have q3 : (x.kind == 3) = false := by rw [e]; rfl
   have q4 : (x.kind == 4) = false := by rw [e]; rfl
   have q5 : (x.kind == 5) = false := by rw [e]; rfl
   have q6 : (x.kind == 6) = false := by rw [e]; rfl
   have q7 : (x.kind == 7) = false := by rw [e]; rfl
   have q8 : (x.kind == 8) = false := by rw [e]; rfl
   have q9 : (x.kind == 9) = false := by rw [e]; rfl
   have q10 : (x.kind == 10) = false := by rw [e]; rfl
   clear e1 e2
   obtain ⟨lv, cv, nv, D, ps, hy, hfw⟩ := HH.out
   have HYB : Hid (CY w0 P (w.alloc (.cells #[.int .i64 x.kind, .string x.text, .int .i64 x.num, .slice q.pn x.names.length q.cn, .slice q.pt x.temps.length q.ct, .slice q.pk x.kids.length q.ck] 25)) cb m s lv cv nv D ps) := Lib.hid (hy.under ((Below.refl _ _).alloc (Nat.le_refl _) _))
   obtain ⟨l, hl0⟩ : ∃ l, (litP x s).1 = l := ⟨_, rfl⟩
   obtain ⟨s1, hs1⟩ : ∃ s1, (litP x s).2 = s1 := ⟨_, rfl⟩
   obtain ⟨g, hg⟩ : ∃ g, (placeP s1 l).1 = g := ⟨_, rfl⟩
   obtain ⟨s2, hs2⟩ : ∃ s2, (placeP s1 l).2 = s2 := ⟨_, rfl⟩
   have HST : Hid (valP (f + 1) x s = emitP s2 6 (g : Int) 0) := Lib.hid (by
    show stepP (valP f) x s = _
    unfold stepP
    rw [if_neg (fun z => z HER.out), if_pos (by rw [e]; decide), hl0, hs1, hg, hs2])
   have hgr := litP_gr x s
   have htm := litP_temps x s
   have hpk := place_keep s1 l
   rw [hs1] at hgr htm
   rw [hs2] at hpk
   have HFW2 : Hid (s2.temps ≤ 24 ∧ s2.names.length ≤ 8 + s2.temps) := Lib.hid (by rw [hpk.1, hpk.2.1, hgr.names, htm]; exact hfw)
   have HLL : Hid (s1.lits.length ≤ 100000) := Lib.hid (by have h1 := hgr.lits; have h2 := HBD.out.2.1; omega)
   have HF4 : Hid (s2.code.length ≤ 1000000) := Lib.hid (by rw [hpk.2.2.1]; have h1 := hgr.code; have h2 := HBD.out.1; omega)
   have HLT0 := Lib.hid hl0
   have HLS0 := Lib.hid hs1
   have HPL := Lib.hid hg
   have HPS := Lib.hid hs2
   have hcall : ∀ W, Below (w.alloc (.cells #[.int .i64 x.kind, .string x.text, .int .i64 x.num, .slice q.pn x.names.length q.cn, .slice q.pt x.temps.length q.ct, .slice q.pk x.kids.length q.ck] 25)).heap.size (w.alloc (.cells #[.int .i64 x.kind, .string x.text, .int .i64 x.num, .slice q.pn x.names.length q.cn, .slice q.pt x.temps.length q.ct, .slice q.pk x.kids.length q.ck] 25)) W → Calls Try.prog 56 #[.pointer (some ⟨cb, 0, none⟩), ndV x q] W (LitPost w0 W P cb m lv cv nv D ps (litP x s).1 (litP x s).2) := fun W hb => lit_any (HYB.out.under hb) HN.out HBD.out.2.2
   rw [hl0, hs1] at hcall
   unfold ndV at hcall
   have HCA := Lib.hid hcall
   clear hy hfw hl0 hs1 hg hs2 hgr htm hpk e hcall
   go_enter Try.func44, Try.ntmps44
   go_wp2_with (first | (go_at_call 56; (with_reducible refine (HCA.out _ bel).mono ?_); rintro e w3 ⟨ql, rfl, hcy, hlt, htu⟩; have HCY := Lib.hid hcy; have HLT := Lib.hid hlt; have HTU := Lib.hid htu; have HDD : Hid (∀ k, madeL (w.alloc (.cells #[.int .i64 x.kind, .string x.text, .int .i64 x.num, .slice q.pn x.names.length q.cn, .slice q.pt x.temps.length q.ct, .slice q.pk x.kids.length q.ck] 25)) w3 k → lv.ownBlock ≠ some k ∧ ∃ cur, w3.heap[k]? = some (.cells cur 40 (0, 0))) := Lib.hid (fun k hk => ⟨(HYB.out.fresh hk.1).2.1, hk.2.2⟩); clear hcy hlt htu) | (go_at_call 55; (with_reducible refine (literal_any HCY.out HLT.out HDD.out HLL.out).mono ?_); rw [HPL.out, HPS.out]; rintro e w4 ⟨rfl, hcy, htu⟩; have HX4 : Hid (CX w0 P w4 cb m s2) := Lib.hid (by obtain ⟨lv', D', ps', hc9⟩ := hcy; exact ⟨lv', _, _, D', ps', hc9, HFW2.out⟩); have HTU4 := Lib.hid htu; clear hcy htu) | (go_at_call 45; (with_reducible refine (emit_at HX4.out.ct bel 6 (g : Int) 0 HF4.out).mono ?_); rintro e w5 ⟨rfl, hx3⟩; have HX5 := Lib.hid hx3; clear hx3))
   go_returns
   rw [HST.out]
   exact ⟨rfl, HX5.out.1, (((Turns.of_below ((Below.refl _ _).alloc (Nat.le_refl _) _)).trans (HTU.out.outOf HYB.out.cbP)).trans HTU4.out).trans HX5.out.2⟩
  by_cases e3 : x.kind = 3
  ·have e := e3
   have q1 : (x.kind == 1) = false := by rw [e]; rfl
   have q2 : (x.kind == 2) = false := by rw [e]; rfl
   have q3 : (x.kind == 3) = true := by rw [e]; rfl
   have q4 : (x.kind == 4) = false := by rw [e]; rfl
   have q5 : (x.kind == 5) = false := by rw [e]; rfl
   have q6 : (x.kind == 6) = false := by rw [e]; rfl
   have q7 : (x.kind == 7) = false := by rw [e]; rfl
   have q8 : (x.kind == 8) = false := by rw [e]; rfl
   have q9 : (x.kind == 9) = false := by rw [e]; rfl
   have q10 : (x.kind == 10) = false := by rw [e]; rfl
   clear e1 e2 e3
   obtain ⟨lv, cv, nv, D, ps, hy, hfw⟩ := HH.out
   have HYB : Hid (CY w0 P (w.alloc (.cells #[.int .i64 x.kind, .string x.text, .int .i64 x.num, .slice q.pn x.names.length q.cn, .slice q.pt x.temps.length q.ct, .slice q.pk x.kids.length q.ck] 25)) cb m s lv cv nv D ps) := Lib.hid (hy.under ((Below.refl _ _).alloc (Nat.le_refl _) _))
   obtain ⟨l, hl0⟩ : ∃ l, (litP x s).1 = l := ⟨_, rfl⟩
   obtain ⟨s1, hs1⟩ : ∃ s1, (litP x s).2 = s1 := ⟨_, rfl⟩
   obtain ⟨g, hg⟩ : ∃ g, (placeP s1 l).1 = g := ⟨_, rfl⟩
   obtain ⟨s2, hs2⟩ : ∃ s2, (placeP s1 l).2 = s2 := ⟨_, rfl⟩
   have HST : Hid (valP (f + 1) x s = emitP s2 6 (g : Int) 0) := Lib.hid (by
    show stepP (valP f) x s = _
    unfold stepP
    rw [if_neg (fun z => z HER.out), if_pos (by rw [e]; decide), hl0, hs1, hg, hs2])
   have hgr := litP_gr x s
   have htm := litP_temps x s
   have hpk := place_keep s1 l
   rw [hs1] at hgr htm
   rw [hs2] at hpk
   have HFW2 : Hid (s2.temps ≤ 24 ∧ s2.names.length ≤ 8 + s2.temps) := Lib.hid (by rw [hpk.1, hpk.2.1, hgr.names, htm]; exact hfw)
   have HLL : Hid (s1.lits.length ≤ 100000) := Lib.hid (by have h1 := hgr.lits; have h2 := HBD.out.2.1; omega)
   have HF4 : Hid (s2.code.length ≤ 1000000) := Lib.hid (by rw [hpk.2.2.1]; have h1 := hgr.code; have h2 := HBD.out.1; omega)
   have HLT0 := Lib.hid hl0
   have HLS0 := Lib.hid hs1
   have HPL := Lib.hid hg
   have HPS := Lib.hid hs2
   have hcall : ∀ W, Below (w.alloc (.cells #[.int .i64 x.kind, .string x.text, .int .i64 x.num, .slice q.pn x.names.length q.cn, .slice q.pt x.temps.length q.ct, .slice q.pk x.kids.length q.ck] 25)).heap.size (w.alloc (.cells #[.int .i64 x.kind, .string x.text, .int .i64 x.num, .slice q.pn x.names.length q.cn, .slice q.pt x.temps.length q.ct, .slice q.pk x.kids.length q.ck] 25)) W → Calls Try.prog 56 #[.pointer (some ⟨cb, 0, none⟩), ndV x q] W (LitPost w0 W P cb m lv cv nv D ps (litP x s).1 (litP x s).2) := fun W hb => lit_any (HYB.out.under hb) HN.out HBD.out.2.2
   rw [hl0, hs1] at hcall
   unfold ndV at hcall
   have HCA := Lib.hid hcall
   clear hy hfw hl0 hs1 hg hs2 hgr htm hpk e hcall
   go_enter Try.func44, Try.ntmps44
   go_wp2_with (first | (go_at_call 56; (with_reducible refine (HCA.out _ bel).mono ?_); rintro e w3 ⟨ql, rfl, hcy, hlt, htu⟩; have HCY := Lib.hid hcy; have HLT := Lib.hid hlt; have HTU := Lib.hid htu; have HDD : Hid (∀ k, madeL (w.alloc (.cells #[.int .i64 x.kind, .string x.text, .int .i64 x.num, .slice q.pn x.names.length q.cn, .slice q.pt x.temps.length q.ct, .slice q.pk x.kids.length q.ck] 25)) w3 k → lv.ownBlock ≠ some k ∧ ∃ cur, w3.heap[k]? = some (.cells cur 40 (0, 0))) := Lib.hid (fun k hk => ⟨(HYB.out.fresh hk.1).2.1, hk.2.2⟩); clear hcy hlt htu) | (go_at_call 55; (with_reducible refine (literal_any HCY.out HLT.out HDD.out HLL.out).mono ?_); rw [HPL.out, HPS.out]; rintro e w4 ⟨rfl, hcy, htu⟩; have HX4 : Hid (CX w0 P w4 cb m s2) := Lib.hid (by obtain ⟨lv', D', ps', hc9⟩ := hcy; exact ⟨lv', _, _, D', ps', hc9, HFW2.out⟩); have HTU4 := Lib.hid htu; clear hcy htu) | (go_at_call 45; (with_reducible refine (emit_at HX4.out.ct bel 6 (g : Int) 0 HF4.out).mono ?_); rintro e w5 ⟨rfl, hx3⟩; have HX5 := Lib.hid hx3; clear hx3))
   go_returns
   rw [HST.out]
   exact ⟨rfl, HX5.out.1, (((Turns.of_below ((Below.refl _ _).alloc (Nat.le_refl _) _)).trans (HTU.out.outOf HYB.out.cbP)).trans HTU4.out).trans HX5.out.2⟩
  by_cases e4 : x.kind = 4
  ·have e := e4
   have q1 : (x.kind == 1) = false := by rw [e]; rfl
   have q2 : (x.kind == 2) = false := by rw [e]; rfl
   have q3 : (x.kind == 3) = false := by rw [e]; rfl
   have q4 : (x.kind == 4) = true := by rw [e]; rfl
   have q5 : (x.kind == 5) = false := by rw [e]; rfl
   have q6 : (x.kind == 6) = false := by rw [e]; rfl
   have q7 : (x.kind == 7) = false := by rw [e]; rfl
   have q8 : (x.kind == 8) = false := by rw [e]; rfl
   have q9 : (x.kind == 9) = false := by rw [e]; rfl
   have q10 : (x.kind == 10) = false := by rw [e]; rfl
   clear e1 e2 e3 e4
   obtain ⟨lv, cv, nv, D, ps, hy, hfw⟩ := HH.out
   have HYB : Hid (CY w0 P (w.alloc (.cells #[.int .i64 x.kind, .string x.text, .int .i64 x.num, .slice q.pn x.names.length q.cn, .slice q.pt x.temps.length q.ct, .slice q.pk x.kids.length q.ck] 25)) cb m s lv cv nv D ps) := Lib.hid (hy.under ((Below.refl _ _).alloc (Nat.le_refl _) _))
   obtain ⟨l, hl0⟩ : ∃ l, (litP x s).1 = l := ⟨_, rfl⟩
   obtain ⟨s1, hs1⟩ : ∃ s1, (litP x s).2 = s1 := ⟨_, rfl⟩
   obtain ⟨g, hg⟩ : ∃ g, (placeP s1 l).1 = g := ⟨_, rfl⟩
   obtain ⟨s2, hs2⟩ : ∃ s2, (placeP s1 l).2 = s2 := ⟨_, rfl⟩
   have HST : Hid (valP (f + 1) x s = emitP s2 6 (g : Int) 0) := Lib.hid (by
    show stepP (valP f) x s = _
    unfold stepP
    rw [if_neg (fun z => z HER.out), if_pos (by rw [e]; decide), hl0, hs1, hg, hs2])
   have hgr := litP_gr x s
   have htm := litP_temps x s
   have hpk := place_keep s1 l
   rw [hs1] at hgr htm
   rw [hs2] at hpk
   have HFW2 : Hid (s2.temps ≤ 24 ∧ s2.names.length ≤ 8 + s2.temps) := Lib.hid (by rw [hpk.1, hpk.2.1, hgr.names, htm]; exact hfw)
   have HLL : Hid (s1.lits.length ≤ 100000) := Lib.hid (by have h1 := hgr.lits; have h2 := HBD.out.2.1; omega)
   have HF4 : Hid (s2.code.length ≤ 1000000) := Lib.hid (by rw [hpk.2.2.1]; have h1 := hgr.code; have h2 := HBD.out.1; omega)
   have HLT0 := Lib.hid hl0
   have HLS0 := Lib.hid hs1
   have HPL := Lib.hid hg
   have HPS := Lib.hid hs2
   have hcall : ∀ W, Below (w.alloc (.cells #[.int .i64 x.kind, .string x.text, .int .i64 x.num, .slice q.pn x.names.length q.cn, .slice q.pt x.temps.length q.ct, .slice q.pk x.kids.length q.ck] 25)).heap.size (w.alloc (.cells #[.int .i64 x.kind, .string x.text, .int .i64 x.num, .slice q.pn x.names.length q.cn, .slice q.pt x.temps.length q.ct, .slice q.pk x.kids.length q.ck] 25)) W → Calls Try.prog 56 #[.pointer (some ⟨cb, 0, none⟩), ndV x q] W (LitPost w0 W P cb m lv cv nv D ps (litP x s).1 (litP x s).2) := fun W hb => lit_any (HYB.out.under hb) HN.out HBD.out.2.2
   rw [hl0, hs1] at hcall
   unfold ndV at hcall
   have HCA := Lib.hid hcall
   clear hy hfw hl0 hs1 hg hs2 hgr htm hpk e hcall
   go_enter Try.func44, Try.ntmps44
   go_wp2_with (first | (go_at_call 56; (with_reducible refine (HCA.out _ bel).mono ?_); rintro e w3 ⟨ql, rfl, hcy, hlt, htu⟩; have HCY := Lib.hid hcy; have HLT := Lib.hid hlt; have HTU := Lib.hid htu; have HDD : Hid (∀ k, madeL (w.alloc (.cells #[.int .i64 x.kind, .string x.text, .int .i64 x.num, .slice q.pn x.names.length q.cn, .slice q.pt x.temps.length q.ct, .slice q.pk x.kids.length q.ck] 25)) w3 k → lv.ownBlock ≠ some k ∧ ∃ cur, w3.heap[k]? = some (.cells cur 40 (0, 0))) := Lib.hid (fun k hk => ⟨(HYB.out.fresh hk.1).2.1, hk.2.2⟩); clear hcy hlt htu) | (go_at_call 55; (with_reducible refine (literal_any HCY.out HLT.out HDD.out HLL.out).mono ?_); rw [HPL.out, HPS.out]; rintro e w4 ⟨rfl, hcy, htu⟩; have HX4 : Hid (CX w0 P w4 cb m s2) := Lib.hid (by obtain ⟨lv', D', ps', hc9⟩ := hcy; exact ⟨lv', _, _, D', ps', hc9, HFW2.out⟩); have HTU4 := Lib.hid htu; clear hcy htu) | (go_at_call 45; (with_reducible refine (emit_at HX4.out.ct bel 6 (g : Int) 0 HF4.out).mono ?_); rintro e w5 ⟨rfl, hx3⟩; have HX5 := Lib.hid hx3; clear hx3))
   go_returns
   rw [HST.out]
   exact ⟨rfl, HX5.out.1, (((Turns.of_below ((Below.refl _ _).alloc (Nat.le_refl _) _)).trans (HTU.out.outOf HYB.out.cbP)).trans HTU4.out).trans HX5.out.2⟩
  by_cases e5 : x.kind = 5
  ·have e := e5
   have q1 : (x.kind == 1) = false := by rw [e]; rfl
   have q2 : (x.kind == 2) = false := by rw [e]; rfl
   have q3 : (x.kind == 3) = false := by rw [e]; rfl
   have q4 : (x.kind == 4) = false := by rw [e]; rfl
   have q5 : (x.kind == 5) = true := by rw [e]; rfl
   have q6 : (x.kind == 6) = false := by rw [e]; rfl
   have q7 : (x.kind == 7) = false := by rw [e]; rfl
   have q8 : (x.kind == 8) = false := by rw [e]; rfl
   have q9 : (x.kind == 9) = false := by rw [e]; rfl
   have q10 : (x.kind == 10) = false := by rw [e]; rfl
   clear e1 e2 e3 e4 e5
   have HST : Hid (valP (f + 1) x s = varP s x.text) := Lib.hid (by
    show stepP (valP f) x s = _
    unfold stepP
    rw [if_neg (fun z => z HER.out), if_neg (by rw [e]; decide), if_pos e])
   skip
   clear e
   go_enter Try.func44, Try.ntmps44
   go_wp2_with (first | (go_at_call 57; (with_reducible refine (variable_at HX0.out bel x.text HTX.out HF0.out HL0.out).mono ?_); rintro e w5 ⟨rfl, hx3⟩; have HX5 := Lib.hid hx3; clear hx3))
   go_returns
   rw [HST.out]
   exact ⟨rfl, HX5.out⟩
  by_cases e6 : x.kind = 6
  ·have e := e6
   have q1 : (x.kind == 1) = false := by rw [e]; rfl
   have q2 : (x.kind == 2) = false := by rw [e]; rfl
   have q3 : (x.kind == 3) = false := by rw [e]; rfl
   have q4 : (x.kind == 4) = false := by rw [e]; rfl
   have q5 : (x.kind == 5) = false := by rw [e]; rfl
   have q6 : (x.kind == 6) = true := by rw [e]; rfl
   have q7 : (x.kind == 7) = false := by rw [e]; rfl
   have q8 : (x.kind == 8) = false := by rw [e]; rfl
   have q9 : (x.kind == 9) = false := by rw [e]; rfl
   have q10 : (x.kind == 10) = false := by rw [e]; rfl
   clear e1 e2 e3 e4 e5 e6
   have HST : Hid (valP (f + 1) x s = assignP (valP f) x s) := Lib.hid (by
    show stepP (valP f) x s = _
    unfold stepP
    rw [if_neg (fun z => z HER.out), if_neg (by rw [e]; decide), if_neg (by rw [e]; decide), if_pos e])
   have hcall : ∀ {ws w1 W : World}, CT w0 P ws w1 cb m s → Below w1.heap.size w1 W → Calls Try.prog 58 #[.pointer (some ⟨cb, 0, none⟩), ndV x q] W fun e w' => e = .returned (.tuple #[]) ∧ CT w0 P ws w' cb m (assignP (valP f) x s) := fun hc hb => assign_at HV.out hc hb HN.out HSZ.out HBD.out.1 HBD.out.2.1
   unfold ndV at hcall
   have HCA : Hid (∀ {ws w1 W : World}, CT w0 P ws w1 cb m s → Below w1.heap.size w1 W → _) := Lib.hid hcall
   clear hcall
   clear e
   go_enter Try.func44, Try.ntmps44
   go_wp2_with (first | (go_at_call 58; (with_reducible refine (HCA.out HX0.out bel).mono ?_); rintro e w5 ⟨rfl, hx3⟩; have HX5 := Lib.hid hx3; clear hx3))
   go_returns
   rw [HST.out]
   exact ⟨rfl, HX5.out⟩
  by_cases e7 : x.kind = 7
  ·have e := e7
   have q1 : (x.kind == 1) = false := by rw [e]; rfl
   have q2 : (x.kind == 2) = false := by rw [e]; rfl
   have q3 : (x.kind == 3) = false := by rw [e]; rfl
   have q4 : (x.kind == 4) = false := by rw [e]; rfl
   have q5 : (x.kind == 5) = false := by rw [e]; rfl
   have q6 : (x.kind == 6) = false := by rw [e]; rfl
   have q7 : (x.kind == 7) = true := by rw [e]; rfl
   have q8 : (x.kind == 8) = false := by rw [e]; rfl
   have q9 : (x.kind == 9) = false := by rw [e]; rfl
   have q10 : (x.kind == 10) = false := by rw [e]; rfl
   clear e1 e2 e3 e4 e5 e6 e7
   have HST : Hid (valP (f + 1) x s = sendP (valP f) x s) := Lib.hid (by
    show stepP (valP f) x s = _
    unfold stepP
    rw [if_neg (fun z => z HER.out), if_neg (by rw [e]; decide), if_neg (by rw [e]; decide), if_neg (by rw [e]; decide), if_pos e])
   have hcall : ∀ {ws w1 W : World}, CT w0 P ws w1 cb m s → Below w1.heap.size w1 W → Calls Try.prog 59 #[.pointer (some ⟨cb, 0, none⟩), ndV x q] W fun e w' => e = .returned (.tuple #[]) ∧ CT w0 P ws w' cb m (sendP (valP f) x s) := fun hc hb => send_at HV.out hc hb HN.out HSZ.out HBD.out.1 HBD.out.2.1
   unfold ndV at hcall
   have HCA : Hid (∀ {ws w1 W : World}, CT w0 P ws w1 cb m s → Below w1.heap.size w1 W → _) := Lib.hid hcall
   clear hcall
   clear e
   go_enter Try.func44, Try.ntmps44
   go_wp2_with (first | (go_at_call 59; (with_reducible refine (HCA.out HX0.out bel).mono ?_); rintro e w5 ⟨rfl, hx3⟩; have HX5 := Lib.hid hx3; clear hx3))
   go_returns
   rw [HST.out]
   exact ⟨rfl, HX5.out⟩
  by_cases e8 : x.kind = 8
  ·have e := e8
   have q1 : (x.kind == 1) = false := by rw [e]; rfl
   have q2 : (x.kind == 2) = false := by rw [e]; rfl
   have q3 : (x.kind == 3) = false := by rw [e]; rfl
   have q4 : (x.kind == 4) = false := by rw [e]; rfl
   have q5 : (x.kind == 5) = false := by rw [e]; rfl
   have q6 : (x.kind == 6) = false := by rw [e]; rfl
   have q7 : (x.kind == 7) = false := by rw [e]; rfl
   have q8 : (x.kind == 8) = true := by rw [e]; rfl
   have q9 : (x.kind == 9) = false := by rw [e]; rfl
   have q10 : (x.kind == 10) = false := by rw [e]; rfl
   clear e1 e2 e3 e4 e5 e6 e7 e8
   have HST : Hid (valP (f + 1) x s = cascP (valP f) x s) := Lib.hid (by
    show stepP (valP f) x s = _
    unfold stepP
    rw [if_neg (fun z => z HER.out), if_neg (by rw [e]; decide), if_neg (by rw [e]; decide), if_neg (by rw [e]; decide), if_neg (by rw [e]; decide), if_pos e])
   have hcall : ∀ {ws w1 W : World}, CT w0 P ws w1 cb m s → Below w1.heap.size w1 W → Calls Try.prog 60 #[.pointer (some ⟨cb, 0, none⟩), ndV x q] W fun e w' => e = .returned (.tuple #[]) ∧ CT w0 P ws w' cb m (cascP (valP f) x s) := fun hc hb => cascade_at HV.out hc hb HN.out HSZ.out HBD.out.1 HBD.out.2.1
   unfold ndV at hcall
   have HCA : Hid (∀ {ws w1 W : World}, CT w0 P ws w1 cb m s → Below w1.heap.size w1 W → _) := Lib.hid hcall
   clear hcall
   clear e
   go_enter Try.func44, Try.ntmps44
   go_wp2_with (first | (go_at_call 60; (with_reducible refine (HCA.out HX0.out bel).mono ?_); rintro e w5 ⟨rfl, hx3⟩; have HX5 := Lib.hid hx3; clear hx3))
   go_returns
   rw [HST.out]
   exact ⟨rfl, HX5.out⟩
  by_cases e9 : x.kind = 9
  ·have e := e9
   have q1 : (x.kind == 1) = false := by rw [e]; rfl
   have q2 : (x.kind == 2) = false := by rw [e]; rfl
   have q3 : (x.kind == 3) = false := by rw [e]; rfl
   have q4 : (x.kind == 4) = false := by rw [e]; rfl
   have q5 : (x.kind == 5) = false := by rw [e]; rfl
   have q6 : (x.kind == 6) = false := by rw [e]; rfl
   have q7 : (x.kind == 7) = false := by rw [e]; rfl
   have q8 : (x.kind == 8) = false := by rw [e]; rfl
   have q9 : (x.kind == 9) = true := by rw [e]; rfl
   have q10 : (x.kind == 10) = false := by rw [e]; rfl
   clear e1 e2 e3 e4 e5 e6 e7 e8 e9
   obtain ⟨nn, hnn⟩ : ∃ nn, x.names.length = nn := ⟨_, rfl⟩
   obtain ⟨nt, hnt⟩ : ∃ nt, s.temps = nt := ⟨_, rfl⟩
   have HNT := Lib.hid hnt
   have HNN := Lib.hid hnn
   obtain ⟨s1, hs1⟩ : ∃ s1, emitP s 18 (nt : Int) (nn : Int) = s1 := ⟨_, rfl⟩
   obtain ⟨s2, hs2⟩ : ∃ s2, bodyP (valP f) x (emitP s1 16 0 0) = s2 := ⟨_, rfl⟩
   have HST : Hid (valP (f + 1) x s = toP (emitP s2 19 0 0) s1.code.length 16 (emitP s2 19 0 0).code.length) := Lib.hid (by
    show stepP (valP f) x s = _
    unfold stepP
    rw [if_neg (fun z => z HER.out), if_neg (by rw [e]; decide), if_neg (by rw [e]; decide), if_neg (by rw [e]; decide), if_neg (by rw [e]; decide), if_neg (by rw [e]; decide), if_pos e]
    unfold blockP
    dsimp only
    rw [hnt, hnn, hs1, hs2])
   have hgr := bodyP_gr (valP_gr f) HSZ.out (emitP s1 16 0 0)
   have htm := bodyP_tm (valP_tm f) x (emitP s1 16 0 0)
   rw [hs2] at hgr htm
   have e1 : s1.code.length = s.code.length + 1 := by rw [← hs1]; exact emit_code _ _ _ _
   have e2 : (emitP s1 16 0 0).code.length = s.code.length + 2 := by rw [emit_code, e1]
   have e3 : (emitP s1 16 0 0).lits = s.lits := by rw [← hs1]; rfl
   have hxp := x.size_pos
   have HF3 : Hid (s1.code.length ≤ 1000000) := Lib.hid (by have h1 := HBD.out.1; omega)
   have HF7 : Hid (s2.code.length ≤ 1000000) := Lib.hid (by have h1 := HBD.out.1; have h2 := hgr.code; omega)
   have HA8 : Hid (s1.code.length < (emitP s2 19 0 0).code.length) := Lib.hid (by have h2 := htm.code; rw [emit_code]; omega)
   have HF8 : Hid ((emitP s2 19 0 0).code.length ≤ 1000000) := Lib.hid (by have h1 := HBD.out.1; have h2 := hgr.code; rw [emit_code]; omega)
   have hbo : ∀ {P' : Nat → Prop} {ws w1 W : World}, CT w0 P' ws w1 cb m (emitP s1 16 0 0) → Below w1.heap.size w1 W → Calls Try.prog 62 #[.pointer (some ⟨cb, 0, none⟩), ndV x q] W fun e w' => e = .returned (.tuple #[]) ∧ CT w0 P' ws w' cb m s2 := fun hc hb => by
    rw [← hs2]
    have h2 := hc.below hb
    refine (body_any6 HV.out h2.1 HN.out HSZ.out (by have h1 := HBD.out.1; omega) (by rw [e3]; exact HBD.out.2.1)).mono ?_
    rintro e w' ⟨he, hc⟩
    exact ⟨he, h2.go hc⟩
   unfold ndV at hbo
   have hbe : Below w.heap.size w (w.alloc (.cells #[.int .i64 x.kind, .string x.text, .int .i64 x.num, .slice q.pn x.names.length q.cn, .slice q.pt x.temps.length q.ct, .slice q.pk x.kids.length q.ck] 25)) := (Below.refl _ _).alloc (Nat.le_refl _) _
   have HX : Hid (CT w0 (fun k => P k ∨ (w.heap.size ≤ k ∧ k < (w.alloc (.cells #[.int .i64 x.kind, .string x.text, .int .i64 x.num, .slice q.pn x.names.length q.cn, .slice q.pt x.temps.length q.ct, .slice q.pk x.kids.length q.ck] 25)).heap.size)) (w.alloc (.cells #[.int .i64 x.kind, .string x.text, .int .i64 x.num, .slice q.pn x.names.length q.cn, .slice q.pt x.temps.length q.ct, .slice q.pk x.kids.length q.ck] 25)) (w.alloc (.cells #[.int .i64 x.kind, .string x.text, .int .i64 x.num, .slice q.pn x.names.length q.cn, .slice q.pt x.temps.length q.ct, .slice q.pk x.kids.length q.ck] 25)) cb m s) := Lib.hid (HH.out.keep hbe).ct
   have HXB : Hid ((w.alloc (.cells #[.int .i64 x.kind, .string x.text, .int .i64 x.num, .slice q.pn x.names.length q.cn, .slice q.pt x.temps.length q.ct, .slice q.pk x.kids.length q.ck] 25)).heap[w.heap.size]? = some (.cells #[.int .i64 x.kind, .string x.text, .int .i64 x.num, .slice q.pn x.names.length q.cn, .slice q.pt x.temps.length q.ct, .slice q.pk x.kids.length q.ck] 25 (0, 0))) := Lib.hid (heap_alloc_new w _)
   have HBX := Lib.hid (lt_of_block HXB.out)
   have HTS : Hid (Turns (outP P) w (w.alloc (.cells #[.int .i64 x.kind, .string x.text, .int .i64 x.num, .slice q.pn x.names.length q.cn, .slice q.pt x.temps.length q.ct, .slice q.pk x.kids.length q.ck] 25))) := Lib.hid (Turns.of_below hbe)
   obtain ⟨Pk, hPk⟩ : ∃ Pk : Nat → Prop, (fun k => P k ∨ (w.heap.size ≤ k ∧ k < (w.alloc (.cells #[.int .i64 x.kind, .string x.text, .int .i64 x.num, .slice q.pn x.names.length q.cn, .slice q.pt x.temps.length q.ct, .slice q.pk x.kids.length q.ck] 25)).heap.size)) = Pk := ⟨_, rfl⟩
   rw [hPk] at HX
   have HPX : Hid (Pk w.heap.size) := Lib.hid (by rw [← hPk]; exact .inr ⟨Nat.le_refl _, HBX.out⟩)
   have HSUB : Hid (∀ k, P k → Pk k) := Lib.hid (fun k z => by rw [← hPk]; exact .inl z)
   clear hbe hPk
   have HS1 := Lib.hid hs1
   rw [hnn] at hbo HXB HX HTS HBX k8 ⊢
   have HBO : Hid (∀ {P' : Nat → Prop} {ws w1 W : World}, CT w0 P' ws w1 cb m (emitP s1 16 0 0) → Below w1.heap.size w1 W → _) := Lib.hid hbo
   have xb9 := (HX.out.2.block w.heap.size HBX.out (fun z => z HPX.out)).trans HXB.out
   obtain ⟨c0, c1, c2, c3, c4, c5⟩ := cc6 xb9
   clear xb9
   have a2 : (w.alloc (.cells #[.int .i64 x.kind, .string x.text, .int .i64 x.num, .slice q.pn nn q.cn, .slice q.pt x.temps.length q.ct, .slice q.pk x.kids.length q.ck] 25)).cell? ⟨cb, 2, none⟩ = some (.int .i64 (nt : Int)) := cell2_of HX.out.1 HNT.out
   clear hbo hgr htm e1 e2 e3 hxp hs1 hs2 hnn hnt e
   go_enter Try.func44, Try.ntmps44
   go_upto_region 18 with fail
   go_region_held3 (fun w' => w'.cell? ⟨cb, 2, none⟩ = some (.int .i64 (nt : Int)) ∧ w'.cell? ⟨w.heap.size, 3, none⟩ = some (.slice q.pn nn q.cn)) (first | assumption | (simp [go_sem]; done) | (simp [go_sem, *]; done)) (first | (go_at_call 45; (with_reducible refine (emit_at HX.out bel 18 (nt : Int) (nn : Int) HF0.out).mono ?_); rintro e w3 ⟨rfl, hx3⟩; have a2 : w3.cell? ⟨cb, 2, none⟩ = some (.int .i64 (nt : Int)) := cell2_of hx3.1 HNT.out; rw [HS1.out] at hx3; have HX3 := Lib.hid hx3; have xb9 := (hx3.2.block w.heap.size HBX.out (fun z => z HPX.out)).trans HXB.out; obtain ⟨c0, c1, c2, c3, c4, c5⟩ := cc6 xb9; clear xb9; clear hx3))
   go_wp2_with (first | (go_at_call 61; (with_reducible refine (leads_at HX3.out bel 16 HF3.out).mono ?_); rintro e w6 ⟨P1, k1, rfl, hcl, hp1, hq1, hx6, ht6⟩; have HCL := Lib.hid hcl; have HP1 := Lib.hid hp1; have HQ1 := Lib.hid hq1; have HX6 := Lib.hid hx6; have HT6 := Lib.hid ht6; have xb9 := (ht6.block w.heap.size HBX.out (fun z => z HPX.out)).trans HXB.out; obtain ⟨c0, c1, c2, c3, c4, c5⟩ := cc6 xb9; clear xb9; unfold cloV; clear hcl hp1 hq1 hx6 ht6) | (go_at_call 62; (with_reducible refine (HBO.out HX6.out.ct bel).mono ?_); rintro e w7 ⟨rfl, hx3⟩; have HX7 := Lib.hid hx3; clear hx3) | (go_at_call 45; (with_reducible refine (emit_at HX7.out bel 19 0 0 HF7.out).mono ?_); rintro e w8 ⟨rfl, hx3⟩; have HX8 := Lib.hid hx3; have HC8 := Lib.hid (HCL.out.turns hx3.2 (fun k hk z => z (HQ1.out k hk))); clear hx3) | (go_at_call 76; (with_reducible refine (lead1_at HX8.out bel HC8.out HQ1.out HA8.out HF8.out).mono ?_); rintro e w9 ⟨rfl, hx3⟩; have HX9 := Lib.hid hx3; clear hx3))
   go_returns
   rw [HST.out]
   exact ⟨rfl, CT.deep (HTS.out.trans (HT6.out.mono (fun k _ z q => z (HSUB.out k q)))) HX9.out (fun k q => HP1.out k (HSUB.out k q)) HH.out.low⟩
  by_cases e10 : x.kind = 10
  ·have e := e10
   have q1 : (x.kind == 1) = false := by rw [e]; rfl
   have q2 : (x.kind == 2) = false := by rw [e]; rfl
   have q3 : (x.kind == 3) = false := by rw [e]; rfl
   have q4 : (x.kind == 4) = false := by rw [e]; rfl
   have q5 : (x.kind == 5) = false := by rw [e]; rfl
   have q6 : (x.kind == 6) = false := by rw [e]; rfl
   have q7 : (x.kind == 7) = false := by rw [e]; rfl
   have q8 : (x.kind == 8) = false := by rw [e]; rfl
   have q9 : (x.kind == 9) = false := by rw [e]; rfl
   have q10 : (x.kind == 10) = true := by rw [e]; rfl
   clear e1 e2 e3 e4 e5 e6 e7 e8 e9 e10
   have hone : ∀ {P' : Nat → Prop} {ws w1 W : World}, CT w0 P' ws w1 cb m s → Below w1.heap.size w1 W → Calls Try.prog 63 #[.pointer (some ⟨cb, 0, none⟩), ndV x q] W fun e w' => e = .returned (.bool (x.kids.length == 1)) ∧ CT w0 P' ws w' cb m (oneP x s) := fun hc hb => by
    have h2 := hc.below hb
    refine (one_any h2.1 HN.out.ok).mono ?_
    rintro e w' ⟨he, hc⟩
    exact ⟨he, h2.go hc⟩
   by_cases e1 : x.kids.length = 1
   ·obtain ⟨kd, hkd⟩ := List.length_eq_one_iff.1 e1
    obtain ⟨b, off, q', hpk, hbl, _, hc6, hkn⟩ := HN.out.kid (i := 0) (by omega)
    rw [show x.kids[0]'(by omega) = kd from by simp [hkd], Nat.zero_mul, Nat.add_zero] at hc6
    rw [show x.kids[0]'(by omega) = kd from by simp [hkd]] at hkn
    have hsz := size_one hkd
    have HST : Hid (valP (f + 1) x s = emitP (valP f kd s) 20 0 0) := Lib.hid (by
     show stepP (valP f) x s = _
     unfold stepP
     rw [if_neg (fun z => z HER.out), if_neg (by rw [e]; decide), if_neg (by rw [e]; decide), if_neg (by rw [e]; decide), if_neg (by rw [e]; decide), if_neg (by rw [e]; decide), if_neg (by rw [e]; decide), if_pos e, hkd])
    have hgr := valP_gr f kd s (by have h9 := HSZ.out; omega)
    have HF5 : Hid ((valP f kd s).code.length ≤ 1000000) := Lib.hid (by have h1 := hgr.code; have h2 := HBD.out.1; omega)
    have hva : ∀ {P' : Nat → Prop} {ws w1 W : World}, CT w0 P' ws w1 cb m s → Below w1.heap.size w1 W → Calls Try.prog 44 #[.pointer (some ⟨cb, 0, none⟩), ndV kd q'] W fun e w' => e = .returned (.tuple #[]) ∧ CT w0 P' ws w' cb m (valP f kd s) := fun hc hb => HV.out.at_ (by have h9 := HSZ.out; omega) hc hb hkn (by have h9 := HBD.out.1; omega) (by have h9 := HBD.out.2.1; omega)
    have hbe : Below w.heap.size w (w.alloc (.cells #[.int .i64 x.kind, .string x.text, .int .i64 x.num, .slice q.pn x.names.length q.cn, .slice q.pt x.temps.length q.ct, .slice q.pk x.kids.length q.ck] 25)) := (Below.refl _ _).alloc (Nat.le_refl _) _
    have HX : Hid (CT w0 (fun k => P k ∨ (w.heap.size ≤ k ∧ k < (w.alloc (.cells #[.int .i64 x.kind, .string x.text, .int .i64 x.num, .slice q.pn x.names.length q.cn, .slice q.pt x.temps.length q.ct, .slice q.pk x.kids.length q.ck] 25)).heap.size)) (w.alloc (.cells #[.int .i64 x.kind, .string x.text, .int .i64 x.num, .slice q.pn x.names.length q.cn, .slice q.pt x.temps.length q.ct, .slice q.pk x.kids.length q.ck] 25)) (w.alloc (.cells #[.int .i64 x.kind, .string x.text, .int .i64 x.num, .slice q.pn x.names.length q.cn, .slice q.pt x.temps.length q.ct, .slice q.pk x.kids.length q.ck] 25)) cb m s) := Lib.hid (HH.out.keep hbe).ct
    have HXB : Hid ((w.alloc (.cells #[.int .i64 x.kind, .string x.text, .int .i64 x.num, .slice q.pn x.names.length q.cn, .slice q.pt x.temps.length q.ct, .slice q.pk x.kids.length q.ck] 25)).heap[w.heap.size]? = some (.cells #[.int .i64 x.kind, .string x.text, .int .i64 x.num, .slice q.pn x.names.length q.cn, .slice q.pt x.temps.length q.ct, .slice q.pk x.kids.length q.ck] 25 (0, 0))) := Lib.hid (heap_alloc_new w _)
    have HBX := Lib.hid (lt_of_block HXB.out)
    have HTS : Hid (Turns (outP P) w (w.alloc (.cells #[.int .i64 x.kind, .string x.text, .int .i64 x.num, .slice q.pn x.names.length q.cn, .slice q.pt x.temps.length q.ct, .slice q.pk x.kids.length q.ck] 25))) := Lib.hid (Turns.of_below hbe)
    obtain ⟨Pk, hPk⟩ : ∃ Pk : Nat → Prop, (fun k => P k ∨ (w.heap.size ≤ k ∧ k < (w.alloc (.cells #[.int .i64 x.kind, .string x.text, .int .i64 x.num, .slice q.pn x.names.length q.cn, .slice q.pt x.temps.length q.ct, .slice q.pk x.kids.length q.ck] 25)).heap.size)) = Pk := ⟨_, rfl⟩
    rw [hPk] at HX
    have HPX : Hid (Pk w.heap.size) := Lib.hid (by rw [← hPk]; exact .inr ⟨Nat.le_refl _, HBX.out⟩)
    have HSUB : Hid (∀ k, P k → Pk k) := Lib.hid (fun k z => by rw [← hPk]; exact .inl z)
    clear hbe hPk
    have HK0 := Lib.hid hc6
    have HBL := Lib.hid hbl
    rw [show oneP x s = s from by unfold oneP; rw [if_pos e1]] at hone
    unfold ndV at hone hva
    rw [e1, hpk] at hone HXB HX HTS HBX k8 ⊢
    have HONE : Hid (∀ {P' : Nat → Prop} {ws w1 W : World}, CT w0 P' ws w1 cb m s → Below w1.heap.size w1 W → _) := Lib.hid hone
    have HVA : Hid (∀ {P' : Nat → Prop} {ws w1 W : World}, CT w0 P' ws w1 cb m s → Below w1.heap.size w1 W → _) := Lib.hid hva
    clear hone hva hgr hsz hkn hc6 hbl hpk hkd e1 e
    go_enter Try.func44, Try.ntmps44
    go_wp2_with (first | (go_at_call 63; (with_reducible refine (HONE.out HX.out bel).mono ?_); rintro e w3 ⟨rfl, hx3⟩; have HX3 := Lib.hid hx3; have xb9 := (hx3.2.block w.heap.size HBX.out (fun z => z HPX.out)).trans HXB.out; have c5 : w3.cell? ⟨w.heap.size, 5, none⟩ = some (.slice (some ⟨b, off, none⟩) 1 q.ck) := cell_in xb9 rfl; have hk0 := HK0.out.same (hx3.1.stat.block b HBL.out); have d0 := hk0.c0; have d1 := hk0.c1; have d2 := hk0.c2; have d3 := hk0.c3; have d4 := hk0.c4; have d5 := hk0.c5; have hb9 : b < w3.heap.size := Nat.lt_of_lt_of_le HBL.out hx3.1.stat.size; clear xb9 hk0 hx3) | (go_at_call 44; (with_reducible refine (HVA.out HX3.out bel).mono ?_); rintro e w5 ⟨rfl, hx3⟩; have HX5 := Lib.hid hx3; clear hx3) | (go_at_call 45; (with_reducible refine (emit_at HX5.out bel 20 0 0 HF5.out).mono ?_); rintro e w6 ⟨rfl, hx3⟩; have HX6 := Lib.hid hx3; clear hx3))
    go_returns
    rw [HST.out]
    exact ⟨rfl, CT.deep HTS.out HX6.out HSUB.out HH.out.low⟩
   ·have HST : Hid (valP (f + 1) x s = failP s eB 1) := Lib.hid (by
     show stepP (valP f) x s = _
     unfold stepP
     rw [if_neg (fun z => z HER.out), if_neg (by rw [e]; decide), if_neg (by rw [e]; decide), if_neg (by rw [e]; decide), if_neg (by rw [e]; decide), if_neg (by rw [e]; decide), if_neg (by rw [e]; decide), if_pos e]
     split
     ·rename_i k hk
      exact absurd (by rw [hk]; rfl) e1
     ·rfl)
    rw [show oneP x s = failP s eB 1 from by unfold oneP; rw [if_neg e1], show (x.kids.length == 1) = false from by simpa using e1] at hone
    unfold ndV at hone
    have HONE : Hid (∀ {P' : Nat → Prop} {ws w1 W : World}, CT w0 P' ws w1 cb m s → Below w1.heap.size w1 W → _) := Lib.hid hone
    clear hone e1 e
    go_enter Try.func44, Try.ntmps44
    go_wp2_with (first | (go_at_call 63; (with_reducible refine (HONE.out HX0.out bel).mono ?_); rintro e w3 ⟨rfl, hx3⟩; have HX3 := Lib.hid hx3; clear hx3))
    go_returns
    rw [HST.out]
    exact ⟨rfl, HX3.out⟩
  have q1 : (x.kind == 1) = false := by simpa using e1
  have q2 : (x.kind == 2) = false := by simpa using e2
  have q3 : (x.kind == 3) = false := by simpa using e3
  have q4 : (x.kind == 4) = false := by simpa using e4
  have q5 : (x.kind == 5) = false := by simpa using e5
  have q6 : (x.kind == 6) = false := by simpa using e6
  have q7 : (x.kind == 7) = false := by simpa using e7
  have q8 : (x.kind == 8) = false := by simpa using e8
  have q9 : (x.kind == 9) = false := by simpa using e9
  have q10 : (x.kind == 10) = false := by simpa using e10
  have HST : Hid (valP (f + 1) x s = failP s eB 1) := Lib.hid (by
   show stepP (valP f) x s = _
   unfold stepP
   rw [if_neg (fun z => z HER.out), if_neg (fun z => z.elim e1 (fun z => z.elim e2 (fun z => z.elim e3 e4))), if_neg e5, if_neg e6, if_neg e7, if_neg e8, if_neg e9, if_neg e10])
  skip
  clear e1 e2 e3 e4 e5 e6 e7 e8 e9 e10
  go_enter Try.func44, Try.ntmps44
  go_wp2_with (first | (go_at_call 54; (with_reducible refine (fail_at HX0.out bel eB (by decide) 1).mono ?_); rintro e w5 ⟨rfl, hx3⟩; have HX5 := Lib.hid hx3; clear hx3))
  go_returns
  rw [HST.out]
  exact ⟨rfl, HX5.out⟩
 ·have HST : Hid (valP (f + 1) x s = s) := Lib.hid (by
   show stepP (valP f) x s = _
   unfold stepP
   rw [if_pos her])
  have e1 : (s.err == 0) = false := by simpa using her
  unfold ndV
  clear her
  go_enter Try.func44, Try.ntmps44
  go_wp2_with fail
  go_returns
  rw [HST.out]
  exact ⟨rfl, HX0.out⟩
theorem vspec : ∀ f, VSpec f
 | 0 => fun x hx => by have := x.size_pos; omega
 | f + 1 => value_any (vspec f)
end Go.Proofs.Ytnojndgmgkgnpaa

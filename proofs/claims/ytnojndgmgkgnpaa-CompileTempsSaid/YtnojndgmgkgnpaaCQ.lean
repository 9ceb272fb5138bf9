/- Chapter 10: what is done in line again and again. -/
import Derived.Test.YtnojndgmgkgnpaaCP
namespace Go.Proofs.Ytnojndgmgkgnpaa
open Go.ChangeShapes Go.WideShapes Go.ChangeAt Go.RowKit Go.Deep Go.Joins Go.Maps
set_option linter.unusedVariables false
set_option linter.unusedSimpArgs false
theorem cell_in {w : World} {b k : Nat} {cs : Array Value} {t : TypeId} {fr : Nat × Nat} {v : Value} (h : w.heap[b]? = some (.cells cs t fr)) (hk : cs[k]? = some v) : w.cell? ⟨b, k, none⟩ = some v := by simp only [World.cell?, h]; exact hk
def loSt (f : Nat) (x : NodT) (s : CSt) : CSt := match isLoop x with
 | some (wh, a, b) => loopP (valP f) wh a b s
 | none => s
theorem here_at {w0 ws w1 w : World} {P : Nat → Prop} {cb : Nat} {m : MK} {s : CSt} (h : CT w0 P ws w1 cb m s) (hb : Below w1.heap.size w1 w) : Calls Try.prog 75 #[.pointer (some ⟨cb, 0, none⟩)] w fun e w' => e = .returned (.int .i64 (s.code.length : Int)) ∧ w' = w := here_any (h.below hb).1
theorem body_at {f : Nat} (hv : VSpec f) {w0 ws w1 w : World} {P : Nat → Prop} {cb : Nat} {m : MK} {s : CSt} (h : CT w0 P ws w1 cb m s) (hb : Below w1.heap.size w1 w) {x : NodT} {q : NS} (hn : IsNd w0 (fun _ => True) x q) (hx : x.size ≤ f + 1) (hf : s.code.length + 8 * x.size ≤ 1000000) (hl : s.lits.length + x.size ≤ 100000) : Calls Try.prog 62 #[.pointer (some ⟨cb, 0, none⟩), ndV x q] w fun e w' => e = .returned (.tuple #[]) ∧ CT w0 P ws w' cb m (bodyP (valP f) x s) := by
 have h2 := h.below hb
 refine (body_any hv h2.1 hn hx hf hl).mono ?_
 rintro e w' ⟨he, hc⟩
 exact ⟨he, h2.go hc⟩
theorem NodT.sizes_two' {a b : NodT} : NodT.sizes [a, b] = a.size + b.size := by simp [NodT.sizes]
theorem lo_num_true {f : Nat} {x a b : NodT} (hk : x.kids = [a, b]) (hx : x.size ≤ f + 1) {s s1 s3 t : CSt} (hf : s.code.length + 8 * x.size ≤ 1000000) (hl : s.lits.length + x.size ≤ 100000) (h1 : bodyP (valP f) a s = s1) (h3 : emitP s1 17 0 0 = s3) (h4 : bodyP (valP f) b s3 = t) :
  s.code.length ≤ 100000000 ∧ (a.size ≤ f + 1 ∧ b.size ≤ f + 1) ∧ (s.code.length + 8 * a.size ≤ 1000000 ∧ s.lits.length + a.size ≤ 100000) ∧ (s3.code.length + 8 * b.size ≤ 1000000 ∧ s3.lits.length + b.size ≤ 100000) ∧ s1.code.length + 2 ≤ 1000000 ∧ t.code.length + 2 ≤ 1000000 ∧ s1.code.length < s3.code.length ∧ s3.code.length ≤ t.code.length ∧ s3.code.length = s1.code.length + 1 ∧ s.code.length ≤ 1000000 ∧ loopP (valP f) true a b s = emitP (toP (toP (emitP (emitP t 12 0 0) 16 0 0) (emitP t 12 0 0).code.length 16 s.code.length) s1.code.length 17 (toP (emitP (emitP t 12 0 0) 16 0 0) (emitP t 12 0 0).code.length 16 s.code.length).code.length) 2 0 0 := by
 have a1 := x.size_kids
 rw [hk, NodT.sizes_two'] at a1
 have p1 := a.size_pos
 have p2 := b.size_pos
 have g1 := bodyP_gr (valP_gr f) (x := a) (by omega) s
 have g4 := bodyP_gr (valP_gr f) (x := b) (by omega) s3
 have t4 := bodyP_tm (valP_tm f) b s3
 rw [h1] at g1
 rw [h4] at g4 t4
 have b1 := g1.code
 have b4 := g4.code
 have c1 := g1.lits
 have c4 := g4.lits
 have d4 := t4.code
 have e3 : s3.code.length = s1.code.length + 1 := by rw [← h3]; simp [toP, emitP]
 have l3 : s3.lits = s1.lits := by rw [← h3]; rfl
 rw [e3] at b4 d4
 rw [l3] at c4
 refine ⟨by omega, ⟨by omega, by omega⟩, ⟨by omega, by omega⟩, ⟨by omega, by rw [l3]; omega⟩, by omega, by omega, by omega, by omega, e3, by omega, ?_⟩
 have e17 : (emitP (emitP s1 17 0 0) 16 0 0).code.length = (emitP s1 17 0 0).code.length + 1 := emit_code _ _ _ _
 skip
 unfold loopP
 dsimp only
 rw [h1]
 simp only [if_true, Bool.false_eq_true, if_false]
 rw [h3, h4]
theorem lo_num_false {f : Nat} {x a b : NodT} (hk : x.kids = [a, b]) (hx : x.size ≤ f + 1) {s s1 s3 t : CSt} (hf : s.code.length + 8 * x.size ≤ 1000000) (hl : s.lits.length + x.size ≤ 100000) (h1 : bodyP (valP f) a s = s1) (h3 : toP (emitP (emitP s1 17 0 0) 16 0 0) s1.code.length 17 (emitP (emitP s1 17 0 0) 16 0 0).code.length = s3) (h4 : bodyP (valP f) b s3 = t) :
  s.code.length ≤ 100000000 ∧ (a.size ≤ f + 1 ∧ b.size ≤ f + 1) ∧ (s.code.length + 8 * a.size ≤ 1000000 ∧ s.lits.length + a.size ≤ 100000) ∧ (s3.code.length + 8 * b.size ≤ 1000000 ∧ s3.lits.length + b.size ≤ 100000) ∧ s1.code.length + 2 ≤ 1000000 ∧ t.code.length + 2 ≤ 1000000 ∧ s1.code.length < s3.code.length ∧ s3.code.length ≤ t.code.length ∧ s3.code.length = s1.code.length + 2 ∧ s.code.length ≤ 1000000 ∧ loopP (valP f) false a b s = emitP (toP (toP (emitP (emitP t 12 0 0) 16 0 0) (emitP t 12 0 0).code.length 16 s.code.length) (emitP s1 17 0 0).code.length 16 (toP (emitP (emitP t 12 0 0) 16 0 0) (emitP t 12 0 0).code.length 16 s.code.length).code.length) 2 0 0 := by
 have a1 := x.size_kids
 rw [hk, NodT.sizes_two'] at a1
 have p1 := a.size_pos
 have p2 := b.size_pos
 have g1 := bodyP_gr (valP_gr f) (x := a) (by omega) s
 have g4 := bodyP_gr (valP_gr f) (x := b) (by omega) s3
 have t4 := bodyP_tm (valP_tm f) b s3
 rw [h1] at g1
 rw [h4] at g4 t4
 have b1 := g1.code
 have b4 := g4.code
 have c1 := g1.lits
 have c4 := g4.lits
 have d4 := t4.code
 have e3 : s3.code.length = s1.code.length + 2 := by rw [← h3]; simp [toP, emitP]
 have l3 : s3.lits = s1.lits := by rw [← h3]; rfl
 rw [e3] at b4 d4
 rw [l3] at c4
 refine ⟨by omega, ⟨by omega, by omega⟩, ⟨by omega, by omega⟩, ⟨by omega, by rw [l3]; omega⟩, by omega, by omega, by omega, by omega, e3, by omega, ?_⟩
 have e17 : (emitP (emitP s1 17 0 0) 16 0 0).code.length = (emitP s1 17 0 0).code.length + 1 := emit_code _ _ _ _
 rw [e17] at h3
 unfold loopP
 dsimp only
 rw [h1]
 simp only [if_true, Bool.false_eq_true, if_false]
 rw [h3, h4]
set_option maxRecDepth 100000 in
set_option maxHeartbeats 16000000 in
theorem loop_any {f : Nat} (hv : VSpec f) {w0 w : World} {P : Nat → Prop} {cb : Nat} {m : MK} {s : CSt} (h : CX w0 P w cb m s) {x : NodT} {q : NS} (hn : IsNd w0 (fun _ => True) x q) (hx : x.size ≤ f + 1) (hf : s.code.length + 8 * x.size ≤ 1000000) (hl : s.lits.length + x.size ≤ 100000) :
  Calls Try.prog 72 #[.pointer (some ⟨cb, 0, none⟩), ndV x q] w fun e w' => e = .returned (.bool (isLoop x).isSome) ∧ CT w0 P w w' cb m (loSt f x s) := by
 have HH := Lib.hid h
 have HN := Lib.hid hn
 have HV := Lib.hid hv
 have HBD : Hid (x.size ≤ f + 1 ∧ s.code.length + 8 * x.size ≤ 1000000 ∧ s.lits.length + x.size ≤ 100000) := Lib.hid ⟨hx, hf, hl⟩
 unfold ndV
 obtain ⟨nk, hnk⟩ : ∃ nk, x.kids.length = nk := ⟨_, rfl⟩
 have HNK := Lib.hid hnk
 rw [hnk]
 have hle : nk ≤ 9223372036854775807 := by have h9 := hn.ok.klen; unfold maxLen at h9; omega
 clear h hn hv hx hf hl hnk
 cases q0 : x.text.toList == [119, 104, 105, 108, 101, 84, 114, 117, 101, 58] with
 | false =>
  cases q1 : x.text.toList == [119, 104, 105, 108, 101, 70, 97, 108, 115, 101, 58] with
  | false =>
   have HLO : Hid (isLoop x = none) := Lib.hid (by unfold isLoop; rw [if_neg (fun z => z.elim (beq_no q0) (beq_no q1))])
   go_enter Try.func72, Try.ntmps72
   go_wp2_with fail
   go_ret
   rw [show loSt f x s = s from by unfold loSt; rw [HLO.out], HLO.out]
   exact ⟨rfl, HH.out.ct.below bel⟩
  | true =>
   have HW : Hid ((x.text.toList = bWhileTrue ∨ x.text.toList = bWhileFalse) ∧ decide (x.text.toList = bWhileTrue) = false) := Lib.hid ⟨.inr (beq_iff_eq.1 q1), decide_eq_false (beq_no q0)⟩
   by_cases hm : nk = 2
   ·subst hm
    obtain ⟨ka, kb9, hab⟩ : ∃ a b, x.kids = [a, b] := by
     match hk9 : x.kids, HNK.out with
     | [a, b], _ => exact ⟨a, b, rfl⟩
    obtain ⟨b, off, q0', hpk, hbl, _, hc0, hn0⟩ := HN.out.kid (i := 0) (by rw [hab]; simp)
    obtain ⟨b', off', q1', hpk', _, _, hc1, hn1⟩ := HN.out.kid (i := 1) (by rw [hab]; simp)
    rw [hpk] at hpk'
    cases hpk'
    rw [show x.kids[0]'(by rw [hab]; simp) = ka from by simp [hab]] at hc0 hn0
    rw [show x.kids[1]'(by rw [hab]; simp) = kb9 from by simp [hab]] at hc1 hn1
    rw [Nat.zero_mul, Nat.add_zero] at hc0
    rw [Nat.one_mul] at hc1
    have HK0 := Lib.hid hc0
    have HK1 := Lib.hid hc1
    have HN0 := Lib.hid hn0
    have HN1 := Lib.hid hn1
    have HBL := Lib.hid hbl
    have HPK := Lib.hid hpk
    have HAB := Lib.hid hab
    have HP0 : Hid (∀ W, Calls Try.prog 87 #[ndV ka q0'] W fun e w' => e = .returned (.bool (plainN ka)) ∧ Below W.heap.size W w') := Lib.hid (fun W => plain_any hn0.ok W)
    have HP1 : Hid (∀ W, Calls Try.prog 87 #[ndV kb9 q1'] W fun e w' => e = .returned (.bool (plainN kb9)) ∧ Below W.heap.size W w') := Lib.hid (fun W => plain_any hn1.ok W)
    obtain ⟨p0, hp0⟩ : ∃ p, plainN ka = p := ⟨_, rfl⟩
    obtain ⟨p1, hp1⟩ : ∃ p, plainN kb9 = p := ⟨_, rfl⟩
    have HQ : Hid (plainN ka = p0 ∧ plainN kb9 = p1) := Lib.hid ⟨hp0, hp1⟩
    rw [hp0] at HP0
    rw [hp1] at HP1
    unfold ndV at HP0 HP1
    have hbe : Below w.heap.size w (w.alloc (.cells #[.int .i64 x.kind, .string x.text, .int .i64 x.num, .slice q.pn x.names.length q.cn, .slice q.pt x.temps.length q.ct, .slice q.pk 2 q.ck] 25)) := (Below.refl _ _).alloc (Nat.le_refl _) _
    have HX : Hid (CT w0 (fun k => P k ∨ (w.heap.size ≤ k ∧ k < (w.alloc (.cells #[.int .i64 x.kind, .string x.text, .int .i64 x.num, .slice q.pn x.names.length q.cn, .slice q.pt x.temps.length q.ct, .slice q.pk 2 q.ck] 25)).heap.size)) (w.alloc (.cells #[.int .i64 x.kind, .string x.text, .int .i64 x.num, .slice q.pn x.names.length q.cn, .slice q.pt x.temps.length q.ct, .slice q.pk 2 q.ck] 25)) (w.alloc (.cells #[.int .i64 x.kind, .string x.text, .int .i64 x.num, .slice q.pn x.names.length q.cn, .slice q.pt x.temps.length q.ct, .slice q.pk 2 q.ck] 25)) cb m s) := Lib.hid (HH.out.keep hbe).ct
    have HXB : Hid ((w.alloc (.cells #[.int .i64 x.kind, .string x.text, .int .i64 x.num, .slice q.pn x.names.length q.cn, .slice q.pt x.temps.length q.ct, .slice q.pk 2 q.ck] 25)).heap[w.heap.size]? = some (.cells #[.int .i64 x.kind, .string x.text, .int .i64 x.num, .slice q.pn x.names.length q.cn, .slice q.pt x.temps.length q.ct, .slice q.pk 2 q.ck] 25 (0, 0))) := Lib.hid (heap_alloc_new w _)
    have HBX := Lib.hid (lt_of_block HXB.out)
    obtain ⟨Pk, hPk⟩ : ∃ Pk : Nat → Prop, (fun k => P k ∨ (w.heap.size ≤ k ∧ k < (w.alloc (.cells #[.int .i64 x.kind, .string x.text, .int .i64 x.num, .slice q.pn x.names.length q.cn, .slice q.pt x.temps.length q.ct, .slice q.pk 2 q.ck] 25)).heap.size)) = Pk := ⟨_, rfl⟩
    rw [hPk] at HX
    have HPX : Hid (Pk w.heap.size) := Lib.hid (by rw [← hPk]; exact .inr ⟨Nat.le_refl _, HBX.out⟩)
    have HSUB : Hid (∀ k, P k → Pk k) := Lib.hid (fun k z => by rw [← hPk]; exact .inl z)
    have HTS : Hid (Turns (outP P) w (w.alloc (.cells #[.int .i64 x.kind, .string x.text, .int .i64 x.num, .slice q.pn x.names.length q.cn, .slice q.pt x.temps.length q.ct, .slice q.pk 2 q.ck] 25))) := Lib.hid (Turns.of_below hbe)
    rw [hpk] at HX HXB HTS HBX ⊢
    have xb9 := (HX.out.2.block w.heap.size HBX.out (fun z => z HPX.out)).trans HXB.out
    have e5 : (w.alloc (.cells #[.int .i64 x.kind, .string x.text, .int .i64 x.num, .slice q.pn x.names.length q.cn, .slice q.pt x.temps.length q.ct, .slice (some ⟨b, off, none⟩) 2 q.ck] 25)).cell? ⟨w.heap.size, 5, none⟩ = some (.slice (some ⟨b, off, none⟩) 2 q.ck) := cell_in xb9 rfl
    have hk0 := HK0.out.same (HX.out.1.stat.block b HBL.out)
    have d0 := hk0.c0
    have d1 := hk0.c1
    have d2 := hk0.c2
    have d3 := hk0.c3
    have d4 := hk0.c4
    have d5 := hk0.c5
    have hk1 := HK1.out.same (HX.out.1.stat.block b HBL.out)
    have j0 := hk1.c0
    have j1 := hk1.c1
    have j2 := hk1.c2
    have j3 := hk1.c3
    have j4 := hk1.c4
    have j5 := hk1.c5
    have hb9 : b < (w.alloc (.cells #[.int .i64 x.kind, .string x.text, .int .i64 x.num, .slice q.pn x.names.length q.cn, .slice q.pt x.temps.length q.ct, .slice (some ⟨b, off, none⟩) 2 q.ck] 25)).heap.size := Nat.lt_of_lt_of_le HBL.out HX.out.1.stat.size
    clear xb9 hk0 hk1
    clear hPk hbe hp0 hp1 hn0 hn1 hc0 hc1 hab hpk hbl
    cases p0 with
    | false =>
     have HLO : Hid (isLoop x = none) := Lib.hid (by unfold isLoop; rw [if_pos HW.out.1]; simp only [HAB.out, HQ.out.1, Bool.false_and, Bool.false_eq_true, if_false])
     go_enter Try.func72, Try.ntmps72
     go_wp2_with (first | (go_at_call 87; (with_reducible refine (HP0.out _).mono ?_); rintro e w2 ⟨rfl, hb2⟩; have HX2 := Lib.hid ((HX.out.below (show Below (w.alloc (.cells #[.int .i64 x.kind, .string x.text, .int .i64 x.num, .slice q.pn x.names.length q.cn, .slice q.pt x.temps.length q.ct, .slice (some ⟨b, off, none⟩) 2 q.ck] 25)).heap.size (w.alloc (.cells #[.int .i64 x.kind, .string x.text, .int .i64 x.num, .slice q.pn x.names.length q.cn, .slice q.pt x.temps.length q.ct, .slice (some ⟨b, off, none⟩) 2 q.ck] 25)) _ from bel)).below hb2); have xb9 := (HX2.out.2.block w.heap.size HBX.out (fun z => z HPX.out)).trans HXB.out; have e5 : w2.cell? ⟨w.heap.size, 5, none⟩ = some (.slice (some ⟨b, off, none⟩) 2 q.ck) := cell_in xb9 rfl; have hk0 := HK0.out.same (HX2.out.1.stat.block b HBL.out); have d0 := hk0.c0; have d1 := hk0.c1; have d2 := hk0.c2; have d3 := hk0.c3; have d4 := hk0.c4; have d5 := hk0.c5; have hk1 := HK1.out.same (HX2.out.1.stat.block b HBL.out); have j0 := hk1.c0; have j1 := hk1.c1; have j2 := hk1.c2; have j3 := hk1.c3; have j4 := hk1.c4; have j5 := hk1.c5; have hb9 : b < w2.heap.size := Nat.lt_of_lt_of_le HBL.out HX2.out.1.stat.size; clear xb9 hk0 hk1; clear hb2))
     go_ret
     rw [show loSt f x s = s from by unfold loSt; rw [HLO.out], HLO.out]
     exact ⟨rfl, CT.deep HTS.out HX2.out HSUB.out HH.out.low⟩
    | true =>
     cases p1 with
     | false =>
      have HLO : Hid (isLoop x = none) := Lib.hid (by unfold isLoop; rw [if_pos HW.out.1]; simp only [HAB.out, HQ.out.1, HQ.out.2, Bool.and_false, Bool.false_eq_true, if_false])
      go_enter Try.func72, Try.ntmps72
      go_wp2_with (first | (go_at_call 87; (with_reducible refine (HP0.out _).mono ?_); rintro e w2 ⟨rfl, hb2⟩; have HX2 := Lib.hid ((HX.out.below (show Below (w.alloc (.cells #[.int .i64 x.kind, .string x.text, .int .i64 x.num, .slice q.pn x.names.length q.cn, .slice q.pt x.temps.length q.ct, .slice (some ⟨b, off, none⟩) 2 q.ck] 25)).heap.size (w.alloc (.cells #[.int .i64 x.kind, .string x.text, .int .i64 x.num, .slice q.pn x.names.length q.cn, .slice q.pt x.temps.length q.ct, .slice (some ⟨b, off, none⟩) 2 q.ck] 25)) _ from bel)).below hb2); have xb9 := (HX2.out.2.block w.heap.size HBX.out (fun z => z HPX.out)).trans HXB.out; have e5 : w2.cell? ⟨w.heap.size, 5, none⟩ = some (.slice (some ⟨b, off, none⟩) 2 q.ck) := cell_in xb9 rfl; have hk0 := HK0.out.same (HX2.out.1.stat.block b HBL.out); have d0 := hk0.c0; have d1 := hk0.c1; have d2 := hk0.c2; have d3 := hk0.c3; have d4 := hk0.c4; have d5 := hk0.c5; have hk1 := HK1.out.same (HX2.out.1.stat.block b HBL.out); have j0 := hk1.c0; have j1 := hk1.c1; have j2 := hk1.c2; have j3 := hk1.c3; have j4 := hk1.c4; have j5 := hk1.c5; have hb9 : b < w2.heap.size := Nat.lt_of_lt_of_le HBL.out HX2.out.1.stat.size; clear xb9 hk0 hk1; clear hb2) | (go_at_call 87; (with_reducible refine (HP1.out _).mono ?_); rintro e w3 ⟨rfl, hb3⟩; have HX3 := Lib.hid ((HX2.out.below (show Below w2.heap.size w2 _ from bel)).below hb3); have xb9 := (HX3.out.2.block w.heap.size HBX.out (fun z => z HPX.out)).trans HXB.out; have e5 : w3.cell? ⟨w.heap.size, 5, none⟩ = some (.slice (some ⟨b, off, none⟩) 2 q.ck) := cell_in xb9 rfl; have hk0 := HK0.out.same (HX3.out.1.stat.block b HBL.out); have d0 := hk0.c0; have d1 := hk0.c1; have d2 := hk0.c2; have d3 := hk0.c3; have d4 := hk0.c4; have d5 := hk0.c5; have hk1 := HK1.out.same (HX3.out.1.stat.block b HBL.out); have j0 := hk1.c0; have j1 := hk1.c1; have j2 := hk1.c2; have j3 := hk1.c3; have j4 := hk1.c4; have j5 := hk1.c5; have hb9 : b < w3.heap.size := Nat.lt_of_lt_of_le HBL.out HX3.out.1.stat.size; clear xb9 hk0 hk1; clear hb3))
      go_ret
      rw [show loSt f x s = s from by unfold loSt; rw [HLO.out], HLO.out]
      exact ⟨rfl, CT.deep HTS.out HX3.out HSUB.out HH.out.low⟩
     | true =>
      have HLO : Hid (isLoop x = some (false, ka, kb9)) := Lib.hid (by unfold isLoop; rw [if_pos HW.out.1]; simp only [HAB.out, HQ.out.1, HQ.out.2, Bool.and_true, if_true, HW.out.2])
      obtain ⟨s1, h1⟩ : ∃ s1, bodyP (valP f) ka s = s1 := ⟨_, rfl⟩
      obtain ⟨s3, h3⟩ : ∃ s3, toP (emitP (emitP s1 17 0 0) 16 0 0) s1.code.length 17 (emitP (emitP s1 17 0 0) 16 0 0).code.length = s3 := ⟨_, rfl⟩
      obtain ⟨t, h4⟩ : ∃ t, bodyP (valP f) kb9 s3 = t := ⟨_, rfl⟩
      have HNU := Lib.hid (lo_num_false HAB.out HBD.out.1 HBD.out.2.1 HBD.out.2.2 h1 h3 h4)
      obtain ⟨na, hna⟩ : ∃ na, s.code.length = na := ⟨_, rfl⟩
      obtain ⟨n4, hn4⟩ : ∃ n4, (emitP t 12 0 0).code.length = n4 := ⟨_, rfl⟩
      have HNA := Lib.hid hna
      have HN4 := Lib.hid hn4
      have HS3 := Lib.hid h3
      have HB0 : Hid (∀ {ws w1 W : World}, CT w0 Pk ws w1 cb m s → Below w1.heap.size w1 W → Calls Try.prog 62 #[.pointer (some ⟨cb, 0, none⟩), ndV ka q0'] W fun e w' => e = .returned (.tuple #[]) ∧ CT w0 Pk ws w' cb m s1) := Lib.hid (fun hc hb => by
       rw [← h1]
       exact body_at HV.out hc hb HN0.out HNU.out.2.1.1 HNU.out.2.2.1.1 HNU.out.2.2.1.2)
      have HB1 : Hid (∀ {PM : Nat → Prop} {ws w1 W : World}, CT w0 PM ws w1 cb m s3 → Below w1.heap.size w1 W → Calls Try.prog 62 #[.pointer (some ⟨cb, 0, none⟩), ndV kb9 q1'] W fun e w' => e = .returned (.tuple #[]) ∧ CT w0 PM ws w' cb m t) := Lib.hid (fun hc hb => by
       rw [← h4]
       exact body_at HV.out hc hb HN1.out HNU.out.2.1.2 HNU.out.2.2.2.1.1 HNU.out.2.2.2.1.2)
      unfold ndV at HB0 HB1
      have HF1 : Hid (s1.code.length ≤ 1000000) := Lib.hid (by have h9 := HNU.out.2.2.2.2.1; omega)
      have HF2 : Hid ((emitP s1 17 0 0).code.length ≤ 1000000) := Lib.hid (by have h9 := HNU.out.2.2.2.2.1; rw [emit_code]; omega)
      have HF3 : Hid ((emitP (emitP s1 17 0 0) 16 0 0).code.length ≤ 1000000) := Lib.hid (by have h9 := HNU.out.2.2.2.2.1; rw [emit_code, emit_code]; omega)
      have HA1 : Hid (s1.code.length < (emitP (emitP s1 17 0 0) 16 0 0).code.length) := Lib.hid (by rw [emit_code, emit_code]; omega)
      have HFt : Hid (t.code.length ≤ 1000000) := Lib.hid (by have h9 := HNU.out.2.2.2.2.2.1; omega)
      have HF4 : Hid ((emitP t 12 0 0).code.length ≤ 1000000) := Lib.hid (by have h9 := HNU.out.2.2.2.2.2.1; rw [emit_code]; omega)
      have HF5 : Hid ((emitP (emitP t 12 0 0) 16 0 0).code.length ≤ 1000000) := Lib.hid (by have h9 := HNU.out.2.2.2.2.2.1; rw [emit_code, emit_code]; omega)
      have HF6 : Hid ((toP (emitP (emitP t 12 0 0) 16 0 0) n4 16 na).code.length ≤ 1000000) := Lib.hid (by have h9 := HF5.out; simp only [toP, List.length_set]; exact h9)
      have HA4 : Hid (n4 < (emitP (emitP t 12 0 0) 16 0 0).code.length) := Lib.hid (by rw [emit_code, hn4]; omega)
      have HNA2 : Hid (na ≤ 1000000) := Lib.hid (by rw [← hna]; exact HNU.out.2.2.2.2.2.2.2.2.2.1)
      have HA5 : Hid ((emitP s1 17 0 0).code.length < (toP (emitP (emitP t 12 0 0) 16 0 0) n4 16 na).code.length) := Lib.hid (by
       have h9 := HNU.out.2.2.2.2.2.2
       have e9 : (toP (emitP (emitP t 12 0 0) 16 0 0) n4 16 na).code.length = t.code.length + 2 := by simp [toP, emitP]
       rw [e9]
       rw [emit_code]
       omega)
      have HF7 : Hid ((toP (toP (emitP (emitP t 12 0 0) 16 0 0) n4 16 na) (emitP s1 17 0 0).code.length 16 (toP (emitP (emitP t 12 0 0) 16 0 0) n4 16 na).code.length).code.length ≤ 1000000) := Lib.hid (by have h9 := HF5.out; simp only [toP, List.length_set]; exact h9)
      have HEQ : Hid (loSt f x s = emitP (toP (toP (emitP (emitP t 12 0 0) 16 0 0) n4 16 na) (emitP s1 17 0 0).code.length 16 (toP (emitP (emitP t 12 0 0) 16 0 0) n4 16 na).code.length) 2 0 0) := Lib.hid (by
       unfold loSt
       rw [HLO.out]
       show loopP (valP f) false ka kb9 s = _
       rw [HNU.out.2.2.2.2.2.2.2.2.2.2, hn4, hna])
      clear h1 h3 h4 hna hn4
      go_enter Try.func72, Try.ntmps72
      go_upto_region 4 with (first | (go_at_call 87; (with_reducible refine (HP0.out _).mono ?_); rintro e w2 ⟨rfl, hb2⟩; have HX2 := Lib.hid ((HX.out.below (show Below (w.alloc (.cells #[.int .i64 x.kind, .string x.text, .int .i64 x.num, .slice q.pn x.names.length q.cn, .slice q.pt x.temps.length q.ct, .slice (some ⟨b, off, none⟩) 2 q.ck] 25)).heap.size (w.alloc (.cells #[.int .i64 x.kind, .string x.text, .int .i64 x.num, .slice q.pn x.names.length q.cn, .slice q.pt x.temps.length q.ct, .slice (some ⟨b, off, none⟩) 2 q.ck] 25)) _ from bel)).below hb2); have xb9 := (HX2.out.2.block w.heap.size HBX.out (fun z => z HPX.out)).trans HXB.out; have e5 : w2.cell? ⟨w.heap.size, 5, none⟩ = some (.slice (some ⟨b, off, none⟩) 2 q.ck) := cell_in xb9 rfl; have hk0 := HK0.out.same (HX2.out.1.stat.block b HBL.out); have d0 := hk0.c0; have d1 := hk0.c1; have d2 := hk0.c2; have d3 := hk0.c3; have d4 := hk0.c4; have d5 := hk0.c5; have hk1 := HK1.out.same (HX2.out.1.stat.block b HBL.out); have j0 := hk1.c0; have j1 := hk1.c1; have j2 := hk1.c2; have j3 := hk1.c3; have j4 := hk1.c4; have j5 := hk1.c5; have hb9 : b < w2.heap.size := Nat.lt_of_lt_of_le HBL.out HX2.out.1.stat.size; clear xb9 hk0 hk1; clear hb2) | (go_at_call 87; (with_reducible refine (HP1.out _).mono ?_); rintro e w3 ⟨rfl, hb3⟩; have HX3 := Lib.hid ((HX2.out.below (show Below w2.heap.size w2 _ from bel)).below hb3); have xb9 := (HX3.out.2.block w.heap.size HBX.out (fun z => z HPX.out)).trans HXB.out; have e5 : w3.cell? ⟨w.heap.size, 5, none⟩ = some (.slice (some ⟨b, off, none⟩) 2 q.ck) := cell_in xb9 rfl; have hk0 := HK0.out.same (HX3.out.1.stat.block b HBL.out); have d0 := hk0.c0; have d1 := hk0.c1; have d2 := hk0.c2; have d3 := hk0.c3; have d4 := hk0.c4; have d5 := hk0.c5; have hk1 := HK1.out.same (HX3.out.1.stat.block b HBL.out); have j0 := hk1.c0; have j1 := hk1.c1; have j2 := hk1.c2; have j3 := hk1.c3; have j4 := hk1.c4; have j5 := hk1.c5; have hb9 : b < w3.heap.size := Nat.lt_of_lt_of_le HBL.out HX3.out.1.stat.size; clear xb9 hk0 hk1; clear hb3))
      go_upto_region 11 with (first | (go_at_call 75; (with_reducible refine (here_at HX3.out bel).mono ?_); rw [HNA.out]; rintro e w4 ⟨rfl, hw4⟩; replace hw4 := hw4.symm; subst hw4) | (go_at_call 62; (with_reducible refine (HB0.out HX3.out bel).mono ?_); rintro e w5 ⟨rfl, hx3⟩; have HX5 := Lib.hid hx3; clear hx3) | (go_at_call 61; (with_reducible refine (leads_at HX5.out bel 17 HF1.out).mono ?_); rintro e w6 ⟨P1, k1, rfl, hcl, hp1, hq1, hx6, ht6⟩; have HCL := Lib.hid hcl; have HP1 := Lib.hid hp1; have HQ1 := Lib.hid hq1; have HX6 := Lib.hid hx6; have HT6 := Lib.hid ht6; unfold cloV; clear hcl hp1 hq1 hx6 ht6) | (go_at_call 61; (with_reducible refine (leads_at HX6.out.ct bel 16 HF2.out).mono ?_); rintro e w7 ⟨P2, k2, rfl, hcl, hp2, hq2, hx7, ht7⟩; have HCL2 := Lib.hid hcl; have HP2 := Lib.hid hp2; have HQ2 := Lib.hid hq2; have HX7 := Lib.hid hx7; have HT7 := Lib.hid ht7; have HCL1 := Lib.hid (HCL.out.turns ht7 (fun k hk z => z (HQ1.out k hk))); unfold cloV; clear hcl hp2 hq2 hx7 ht7) | (go_at_call 76; (with_reducible refine (lead1_at HX7.out.ct bel HCL1.out (fun k hk => HP2.out k (HQ1.out k hk)) HA1.out HF3.out).mono ?_); rintro e w8 ⟨rfl, hx9⟩; have HX8 := Lib.hid hx9; clear hx9))
      have HXM : Hid (CT w0 P2 w7 w8 cb m s3) := Lib.hid (by rw [← HS3.out]; exact HX8.out)
      have HCM := Lib.hid (HCL2.out.turns HX8.out.2 (fun k hk z => z (HQ2.out k hk)))
      have HCM := Lib.hid HCL2.out
      have HQM := HQ2
      have HTM := Lib.hid ((HTS.out.trans (HT6.out.mono (fun k _ z q => z (HSUB.out k q)))).trans (HT7.out.mono (fun k _ z q => z (HP1.out k (HSUB.out k q)))))
      have HSM : Hid (∀ k, P k → P2 k) := Lib.hid (fun k q => HP2.out k (HP1.out k (HSUB.out k q)))
      have HTK := Lib.hid ((HT6.out.trans (HT7.out.mono (fun k _ z q => z (HP1.out k q)))).trans (HX8.out.2.mono (fun k _ z q => z (HP2.out k (HP1.out k q)))))
      have xb9 := (HTK.out.block w.heap.size HBX.out (fun z => z HPX.out)).trans HXB.out
      have e5 : w8.cell? ⟨w.heap.size, 5, none⟩ = some (.slice (some ⟨b, off, none⟩) 2 q.ck) := cell_in xb9 rfl
      have hk1 := HK1.out.same (HX8.out.1.stat.block b HBL.out)
      have j0 := hk1.c0
      have j1 := hk1.c1
      have j2 := hk1.c2
      have j3 := hk1.c3
      have j4 := hk1.c4
      have j5 := hk1.c5
      have hb9 : b < w8.heap.size := Nat.lt_of_lt_of_le HBL.out HX8.out.1.stat.size
      clear xb9 hk1
      go_wp2_with (first | (go_at_call 62; (with_reducible refine (HB1.out HXM.out bel).mono ?_); rintro e w9 ⟨rfl, hx3⟩; have HX9 := Lib.hid hx3; clear hx3) | (go_at_call 45; (with_reducible refine (emit_at HX9.out bel 12 0 0 HFt.out).mono ?_); rintro e w10 ⟨rfl, hx3⟩; have HX10 := Lib.hid hx3; clear hx3) | (go_at_call 75; (with_reducible refine (here_at HX10.out bel).mono ?_); rw [HN4.out]; rintro e w4 ⟨rfl, hw4⟩; replace hw4 := hw4.symm; subst hw4) | (go_at_call 45; (with_reducible refine (emit_at HX10.out bel 16 0 0 HF4.out).mono ?_); rintro e w11 ⟨rfl, hx3⟩; have HX11 := Lib.hid hx3; clear hx3) | (go_at_call 77; (with_reducible refine (to_at HX11.out bel n4 HA4.out 16 na HNA2.out HF5.out).mono ?_); rintro e w12 ⟨rfl, hx3⟩; have HX12 := Lib.hid hx3; have HC12 := Lib.hid (HCM.out.turns hx3.2 (fun k hk z => z (HQM.out k hk))); clear hx3) | (go_at_call 76; (with_reducible refine (lead1_at HX12.out bel HC12.out HQM.out HA5.out HF6.out).mono ?_); rintro e w13 ⟨rfl, hx3⟩; have HX13 := Lib.hid hx3; clear hx3) | (go_at_call 45; (with_reducible refine (emit_at HX13.out bel 2 0 0 HF7.out).mono ?_); rintro e w14 ⟨rfl, hx3⟩; have HX14 := Lib.hid hx3; clear hx3))
      go_ret
      rw [HEQ.out, HLO.out]
      exact ⟨rfl, CT.deep HTM.out HX14.out HSM.out HH.out.low⟩
   ·have z1 : (nk == 2) = false := by simpa using hm
    have z2 : ((nk : Int) == 2) = false := by simp; omega
    have z3 : ¬ ((nk : Int) = 2) := by omega
    have HLO : Hid (isLoop x = none) := Lib.hid (by
     unfold isLoop
     rw [if_pos HW.out.1]
     split
     ·rename_i a b e
      have h9 := HNK.out
      rw [e] at h9
      simp at h9
      omega
     ·rfl)
    clear hm
    go_enter Try.func72, Try.ntmps72
    go_wp2_with fail
    go_ret
    rw [show loSt f x s = s from by unfold loSt; rw [HLO.out], HLO.out]
    exact ⟨rfl, HH.out.ct.below bel⟩
 | true =>
  have HW : Hid ((x.text.toList = bWhileTrue ∨ x.text.toList = bWhileFalse) ∧ decide (x.text.toList = bWhileTrue) = true) := Lib.hid ⟨.inl (beq_iff_eq.1 q0), decide_eq_true (beq_iff_eq.1 q0)⟩
  by_cases hm : nk = 2
  ·subst hm
   obtain ⟨ka, kb9, hab⟩ : ∃ a b, x.kids = [a, b] := by
    match hk9 : x.kids, HNK.out with
    | [a, b], _ => exact ⟨a, b, rfl⟩
   obtain ⟨b, off, q0', hpk, hbl, _, hc0, hn0⟩ := HN.out.kid (i := 0) (by rw [hab]; simp)
   obtain ⟨b', off', q1', hpk', _, _, hc1, hn1⟩ := HN.out.kid (i := 1) (by rw [hab]; simp)
   rw [hpk] at hpk'
   cases hpk'
   rw [show x.kids[0]'(by rw [hab]; simp) = ka from by simp [hab]] at hc0 hn0
   rw [show x.kids[1]'(by rw [hab]; simp) = kb9 from by simp [hab]] at hc1 hn1
   rw [Nat.zero_mul, Nat.add_zero] at hc0
   rw [Nat.one_mul] at hc1
   have HK0 := Lib.hid hc0
   have HK1 := Lib.hid hc1
   have HN0 := Lib.hid hn0
   have HN1 := Lib.hid hn1
   have HBL := Lib.hid hbl
   have HPK := Lib.hid hpk
   have HAB := Lib.hid hab
   have HP0 : Hid (∀ W, Calls Try.prog 87 #[ndV ka q0'] W fun e w' => e = .returned (.bool (plainN ka)) ∧ Below W.heap.size W w') := Lib.hid (fun W => plain_any hn0.ok W)
   have HP1 : Hid (∀ W, Calls Try.prog 87 #[ndV kb9 q1'] W fun e w' => e = .returned (.bool (plainN kb9)) ∧ Below W.heap.size W w') := Lib.hid (fun W => plain_any hn1.ok W)
   obtain ⟨p0, hp0⟩ : ∃ p, plainN ka = p := ⟨_, rfl⟩
   obtain ⟨p1, hp1⟩ : ∃ p, plainN kb9 = p := ⟨_, rfl⟩
   have HQ : Hid (plainN ka = p0 ∧ plainN kb9 = p1) := Lib.hid ⟨hp0, hp1⟩
   rw [hp0] at HP0
   rw [hp1] at HP1
   unfold ndV at HP0 HP1
   have hbe : Below w.heap.size w (w.alloc (.cells #[.int .i64 x.kind, .string x.text, .int .i64 x.num, .slice q.pn x.names.length q.cn, .slice q.pt x.temps.length q.ct, .slice q.pk 2 q.ck] 25)) := (Below.refl _ _).alloc (Nat.le_refl _) _
   have HX : Hid (CT w0 (fun k => P k ∨ (w.heap.size ≤ k ∧ k < (w.alloc (.cells #[.int .i64 x.kind, .string x.text, .int .i64 x.num, .slice q.pn x.names.length q.cn, .slice q.pt x.temps.length q.ct, .slice q.pk 2 q.ck] 25)).heap.size)) (w.alloc (.cells #[.int .i64 x.kind, .string x.text, .int .i64 x.num, .slice q.pn x.names.length q.cn, .slice q.pt x.temps.length q.ct, .slice q.pk 2 q.ck] 25)) (w.alloc (.cells #[.int .i64 x.kind, .string x.text, .int .i64 x.num, .slice q.pn x.names.length q.cn, .slice q.pt x.temps.length q.ct, .slice q.pk 2 q.ck] 25)) cb m s) := Lib.hid (HH.out.keep hbe).ct
   have HXB : Hid ((w.alloc (.cells #[.int .i64 x.kind, .string x.text, .int .i64 x.num, .slice q.pn x.names.length q.cn, .slice q.pt x.temps.length q.ct, .slice q.pk 2 q.ck] 25)).heap[w.heap.size]? = some (.cells #[.int .i64 x.kind, .string x.text, .int .i64 x.num, .slice q.pn x.names.length q.cn, .slice q.pt x.temps.length q.ct, .slice q.pk 2 q.ck] 25 (0, 0))) := Lib.hid (heap_alloc_new w _)
   have HBX := Lib.hid (lt_of_block HXB.out)
   obtain ⟨Pk, hPk⟩ : ∃ Pk : Nat → Prop, (fun k => P k ∨ (w.heap.size ≤ k ∧ k < (w.alloc (.cells #[.int .i64 x.kind, .string x.text, .int .i64 x.num, .slice q.pn x.names.length q.cn, .slice q.pt x.temps.length q.ct, .slice q.pk 2 q.ck] 25)).heap.size)) = Pk := ⟨_, rfl⟩
   rw [hPk] at HX
   have HPX : Hid (Pk w.heap.size) := Lib.hid (by rw [← hPk]; exact .inr ⟨Nat.le_refl _, HBX.out⟩)
   have HSUB : Hid (∀ k, P k → Pk k) := Lib.hid (fun k z => by rw [← hPk]; exact .inl z)
   have HTS : Hid (Turns (outP P) w (w.alloc (.cells #[.int .i64 x.kind, .string x.text, .int .i64 x.num, .slice q.pn x.names.length q.cn, .slice q.pt x.temps.length q.ct, .slice q.pk 2 q.ck] 25))) := Lib.hid (Turns.of_below hbe)
   rw [hpk] at HX HXB HTS HBX ⊢
   have xb9 := (HX.out.2.block w.heap.size HBX.out (fun z => z HPX.out)).trans HXB.out
   have e5 : (w.alloc (.cells #[.int .i64 x.kind, .string x.text, .int .i64 x.num, .slice q.pn x.names.length q.cn, .slice q.pt x.temps.length q.ct, .slice (some ⟨b, off, none⟩) 2 q.ck] 25)).cell? ⟨w.heap.size, 5, none⟩ = some (.slice (some ⟨b, off, none⟩) 2 q.ck) := cell_in xb9 rfl
   have hk0 := HK0.out.same (HX.out.1.stat.block b HBL.out)
   have d0 := hk0.c0
   have d1 := hk0.c1
   have d2 := hk0.c2
   have d3 := hk0.c3
   have d4 := hk0.c4
   have d5 := hk0.c5
   have hk1 := HK1.out.same (HX.out.1.stat.block b HBL.out)
   have j0 := hk1.c0
   have j1 := hk1.c1
   have j2 := hk1.c2
   have j3 := hk1.c3
   have j4 := hk1.c4
   have j5 := hk1.c5
   have hb9 : b < (w.alloc (.cells #[.int .i64 x.kind, .string x.text, .int .i64 x.num, .slice q.pn x.names.length q.cn, .slice q.pt x.temps.length q.ct, .slice (some ⟨b, off, none⟩) 2 q.ck] 25)).heap.size := Nat.lt_of_lt_of_le HBL.out HX.out.1.stat.size
   clear xb9 hk0 hk1
   clear hPk hbe hp0 hp1 hn0 hn1 hc0 hc1 hab hpk hbl
   cases p0 with
   | false =>
    have HLO : Hid (isLoop x = none) := Lib.hid (by unfold isLoop; rw [if_pos HW.out.1]; simp only [HAB.out, HQ.out.1, Bool.false_and, Bool.false_eq_true, if_false])
    go_enter Try.func72, Try.ntmps72
    go_wp2_with (first | (go_at_call 87; (with_reducible refine (HP0.out _).mono ?_); rintro e w2 ⟨rfl, hb2⟩; have HX2 := Lib.hid ((HX.out.below (show Below (w.alloc (.cells #[.int .i64 x.kind, .string x.text, .int .i64 x.num, .slice q.pn x.names.length q.cn, .slice q.pt x.temps.length q.ct, .slice (some ⟨b, off, none⟩) 2 q.ck] 25)).heap.size (w.alloc (.cells #[.int .i64 x.kind, .string x.text, .int .i64 x.num, .slice q.pn x.names.length q.cn, .slice q.pt x.temps.length q.ct, .slice (some ⟨b, off, none⟩) 2 q.ck] 25)) _ from bel)).below hb2); have xb9 := (HX2.out.2.block w.heap.size HBX.out (fun z => z HPX.out)).trans HXB.out; have e5 : w2.cell? ⟨w.heap.size, 5, none⟩ = some (.slice (some ⟨b, off, none⟩) 2 q.ck) := cell_in xb9 rfl; have hk0 := HK0.out.same (HX2.out.1.stat.block b HBL.out); have d0 := hk0.c0; have d1 := hk0.c1; have d2 := hk0.c2; have d3 := hk0.c3; have d4 := hk0.c4; have d5 := hk0.c5; have hk1 := HK1.out.same (HX2.out.1.stat.block b HBL.out); have j0 := hk1.c0; have j1 := hk1.c1; have j2 := hk1.c2; have j3 := hk1.c3; have j4 := hk1.c4; have j5 := hk1.c5; have hb9 : b < w2.heap.size := Nat.lt_of_lt_of_le HBL.out HX2.out.1.stat.size; clear xb9 hk0 hk1; clear hb2))
    go_ret
    rw [show loSt f x s = s from by unfold loSt; rw [HLO.out], HLO.out]
    exact ⟨rfl, CT.deep HTS.out HX2.out HSUB.out HH.out.low⟩
   | true =>
    cases p1 with
    | false =>
     have HLO : Hid (isLoop x = none) := Lib.hid (by unfold isLoop; rw [if_pos HW.out.1]; simp only [HAB.out, HQ.out.1, HQ.out.2, Bool.and_false, Bool.false_eq_true, if_false])
     go_enter Try.func72, Try.ntmps72
     go_wp2_with (first | (go_at_call 87; (with_reducible refine (HP0.out _).mono ?_); rintro e w2 ⟨rfl, hb2⟩; have HX2 := Lib.hid ((HX.out.below (show Below (w.alloc (.cells #[.int .i64 x.kind, .string x.text, .int .i64 x.num, .slice q.pn x.names.length q.cn, .slice q.pt x.temps.length q.ct, .slice (some ⟨b, off, none⟩) 2 q.ck] 25)).heap.size (w.alloc (.cells #[.int .i64 x.kind, .string x.text, .int .i64 x.num, .slice q.pn x.names.length q.cn, .slice q.pt x.temps.length q.ct, .slice (some ⟨b, off, none⟩) 2 q.ck] 25)) _ from bel)).below hb2); have xb9 := (HX2.out.2.block w.heap.size HBX.out (fun z => z HPX.out)).trans HXB.out; have e5 : w2.cell? ⟨w.heap.size, 5, none⟩ = some (.slice (some ⟨b, off, none⟩) 2 q.ck) := cell_in xb9 rfl; have hk0 := HK0.out.same (HX2.out.1.stat.block b HBL.out); have d0 := hk0.c0; have d1 := hk0.c1; have d2 := hk0.c2; have d3 := hk0.c3; have d4 := hk0.c4; have d5 := hk0.c5; have hk1 := HK1.out.same (HX2.out.1.stat.block b HBL.out); have j0 := hk1.c0; have j1 := hk1.c1; have j2 := hk1.c2; have j3 := hk1.c3; have j4 := hk1.c4; have j5 := hk1.c5; have hb9 : b < w2.heap.size := Nat.lt_of_lt_of_le HBL.out HX2.out.1.stat.size; clear xb9 hk0 hk1; clear hb2) | (go_at_call 87; (with_reducible refine (HP1.out _).mono ?_); rintro e w3 ⟨rfl, hb3⟩; have HX3 := Lib.hid ((HX2.out.below (show Below w2.heap.size w2 _ from bel)).below hb3); have xb9 := (HX3.out.2.block w.heap.size HBX.out (fun z => z HPX.out)).trans HXB.out; have e5 : w3.cell? ⟨w.heap.size, 5, none⟩ = some (.slice (some ⟨b, off, none⟩) 2 q.ck) := cell_in xb9 rfl; have hk0 := HK0.out.same (HX3.out.1.stat.block b HBL.out); have d0 := hk0.c0; have d1 := hk0.c1; have d2 := hk0.c2; have d3 := hk0.c3; have d4 := hk0.c4; have d5 := hk0.c5; have hk1 := HK1.out.same (HX3.out.1.stat.block b HBL.out); have j0 := hk1.c0; have j1 := hk1.c1; have j2 := hk1.c2; have j3 := hk1.c3; have j4 := hk1.c4; have j5 := hk1.c5; have hb9 : b < w3.heap.size := Nat.lt_of_lt_of_le HBL.out HX3.out.1.stat.size; clear xb9 hk0 hk1; clear hb3))
     go_ret
     rw [show loSt f x s = s from by unfold loSt; rw [HLO.out], HLO.out]
     exact ⟨rfl, CT.deep HTS.out HX3.out HSUB.out HH.out.low⟩
    | true =>
     have HLO : Hid (isLoop x = some (true, ka, kb9)) := Lib.hid (by unfold isLoop; rw [if_pos HW.out.1]; simp only [HAB.out, HQ.out.1, HQ.out.2, Bool.and_true, if_true, HW.out.2])
     obtain ⟨s1, h1⟩ : ∃ s1, bodyP (valP f) ka s = s1 := ⟨_, rfl⟩
     obtain ⟨s3, h3⟩ : ∃ s3, emitP s1 17 0 0 = s3 := ⟨_, rfl⟩
     obtain ⟨t, h4⟩ : ∃ t, bodyP (valP f) kb9 s3 = t := ⟨_, rfl⟩
     have HNU := Lib.hid (lo_num_true HAB.out HBD.out.1 HBD.out.2.1 HBD.out.2.2 h1 h3 h4)
     obtain ⟨na, hna⟩ : ∃ na, s.code.length = na := ⟨_, rfl⟩
     obtain ⟨n4, hn4⟩ : ∃ n4, (emitP t 12 0 0).code.length = n4 := ⟨_, rfl⟩
     have HNA := Lib.hid hna
     have HN4 := Lib.hid hn4
     have HS3 := Lib.hid h3
     have HB0 : Hid (∀ {ws w1 W : World}, CT w0 Pk ws w1 cb m s → Below w1.heap.size w1 W → Calls Try.prog 62 #[.pointer (some ⟨cb, 0, none⟩), ndV ka q0'] W fun e w' => e = .returned (.tuple #[]) ∧ CT w0 Pk ws w' cb m s1) := Lib.hid (fun hc hb => by
      rw [← h1]
      exact body_at HV.out hc hb HN0.out HNU.out.2.1.1 HNU.out.2.2.1.1 HNU.out.2.2.1.2)
     have HB1 : Hid (∀ {PM : Nat → Prop} {ws w1 W : World}, CT w0 PM ws w1 cb m s3 → Below w1.heap.size w1 W → Calls Try.prog 62 #[.pointer (some ⟨cb, 0, none⟩), ndV kb9 q1'] W fun e w' => e = .returned (.tuple #[]) ∧ CT w0 PM ws w' cb m t) := Lib.hid (fun hc hb => by
      rw [← h4]
      exact body_at HV.out hc hb HN1.out HNU.out.2.1.2 HNU.out.2.2.2.1.1 HNU.out.2.2.2.1.2)
     unfold ndV at HB0 HB1
     have HF1 : Hid (s1.code.length ≤ 1000000) := Lib.hid (by have h9 := HNU.out.2.2.2.2.1; omega)
     have HF2 : Hid ((emitP s1 17 0 0).code.length ≤ 1000000) := Lib.hid (by have h9 := HNU.out.2.2.2.2.1; rw [emit_code]; omega)
     have HF3 : Hid ((emitP (emitP s1 17 0 0) 16 0 0).code.length ≤ 1000000) := Lib.hid (by have h9 := HNU.out.2.2.2.2.1; rw [emit_code, emit_code]; omega)
     have HA1 : Hid (s1.code.length < (emitP (emitP s1 17 0 0) 16 0 0).code.length) := Lib.hid (by rw [emit_code, emit_code]; omega)
     have HFt : Hid (t.code.length ≤ 1000000) := Lib.hid (by have h9 := HNU.out.2.2.2.2.2.1; omega)
     have HF4 : Hid ((emitP t 12 0 0).code.length ≤ 1000000) := Lib.hid (by have h9 := HNU.out.2.2.2.2.2.1; rw [emit_code]; omega)
     have HF5 : Hid ((emitP (emitP t 12 0 0) 16 0 0).code.length ≤ 1000000) := Lib.hid (by have h9 := HNU.out.2.2.2.2.2.1; rw [emit_code, emit_code]; omega)
     have HF6 : Hid ((toP (emitP (emitP t 12 0 0) 16 0 0) n4 16 na).code.length ≤ 1000000) := Lib.hid (by have h9 := HF5.out; simp only [toP, List.length_set]; exact h9)
     have HA4 : Hid (n4 < (emitP (emitP t 12 0 0) 16 0 0).code.length) := Lib.hid (by rw [emit_code, hn4]; omega)
     have HNA2 : Hid (na ≤ 1000000) := Lib.hid (by rw [← hna]; exact HNU.out.2.2.2.2.2.2.2.2.2.1)
     have HA5 : Hid (s1.code.length < (toP (emitP (emitP t 12 0 0) 16 0 0) n4 16 na).code.length) := Lib.hid (by
      have h9 := HNU.out.2.2.2.2.2.2
      have e9 : (toP (emitP (emitP t 12 0 0) 16 0 0) n4 16 na).code.length = t.code.length + 2 := by simp [toP, emitP]
      rw [e9]
 
      omega)
     have HF7 : Hid ((toP (toP (emitP (emitP t 12 0 0) 16 0 0) n4 16 na) s1.code.length 17 (toP (emitP (emitP t 12 0 0) 16 0 0) n4 16 na).code.length).code.length ≤ 1000000) := Lib.hid (by have h9 := HF5.out; simp only [toP, List.length_set]; exact h9)
     have HEQ : Hid (loSt f x s = emitP (toP (toP (emitP (emitP t 12 0 0) 16 0 0) n4 16 na) s1.code.length 17 (toP (emitP (emitP t 12 0 0) 16 0 0) n4 16 na).code.length) 2 0 0) := Lib.hid (by
      unfold loSt
      rw [HLO.out]
      show loopP (valP f) true ka kb9 s = _
      rw [HNU.out.2.2.2.2.2.2.2.2.2.2, hn4, hna])
     clear h1 h3 h4 hna hn4
     go_enter Try.func72, Try.ntmps72
     go_upto_region 4 with (first | (go_at_call 87; (with_reducible refine (HP0.out _).mono ?_); rintro e w2 ⟨rfl, hb2⟩; have HX2 := Lib.hid ((HX.out.below (show Below (w.alloc (.cells #[.int .i64 x.kind, .string x.text, .int .i64 x.num, .slice q.pn x.names.length q.cn, .slice q.pt x.temps.length q.ct, .slice (some ⟨b, off, none⟩) 2 q.ck] 25)).heap.size (w.alloc (.cells #[.int .i64 x.kind, .string x.text, .int .i64 x.num, .slice q.pn x.names.length q.cn, .slice q.pt x.temps.length q.ct, .slice (some ⟨b, off, none⟩) 2 q.ck] 25)) _ from bel)).below hb2); have xb9 := (HX2.out.2.block w.heap.size HBX.out (fun z => z HPX.out)).trans HXB.out; have e5 : w2.cell? ⟨w.heap.size, 5, none⟩ = some (.slice (some ⟨b, off, none⟩) 2 q.ck) := cell_in xb9 rfl; have hk0 := HK0.out.same (HX2.out.1.stat.block b HBL.out); have d0 := hk0.c0; have d1 := hk0.c1; have d2 := hk0.c2; have d3 := hk0.c3; have d4 := hk0.c4; have d5 := hk0.c5; have hk1 := HK1.out.same (HX2.out.1.stat.block b HBL.out); have j0 := hk1.c0; have j1 := hk1.c1; have j2 := hk1.c2; have j3 := hk1.c3; have j4 := hk1.c4; have j5 := hk1.c5; have hb9 : b < w2.heap.size := Nat.lt_of_lt_of_le HBL.out HX2.out.1.stat.size; clear xb9 hk0 hk1; clear hb2) | (go_at_call 87; (with_reducible refine (HP1.out _).mono ?_); rintro e w3 ⟨rfl, hb3⟩; have HX3 := Lib.hid ((HX2.out.below (show Below w2.heap.size w2 _ from bel)).below hb3); have xb9 := (HX3.out.2.block w.heap.size HBX.out (fun z => z HPX.out)).trans HXB.out; have e5 : w3.cell? ⟨w.heap.size, 5, none⟩ = some (.slice (some ⟨b, off, none⟩) 2 q.ck) := cell_in xb9 rfl; have hk0 := HK0.out.same (HX3.out.1.stat.block b HBL.out); have d0 := hk0.c0; have d1 := hk0.c1; have d2 := hk0.c2; have d3 := hk0.c3; have d4 := hk0.c4; have d5 := hk0.c5; have hk1 := HK1.out.same (HX3.out.1.stat.block b HBL.out); have j0 := hk1.c0; have j1 := hk1.c1; have j2 := hk1.c2; have j3 := hk1.c3; have j4 := hk1.c4; have j5 := hk1.c5; have hb9 : b < w3.heap.size := Nat.lt_of_lt_of_le HBL.out HX3.out.1.stat.size; clear xb9 hk0 hk1; clear hb3))
     go_upto_region 11 with (first | (go_at_call 75; (with_reducible refine (here_at HX3.out bel).mono ?_); rw [HNA.out]; rintro e w4 ⟨rfl, hw4⟩; replace hw4 := hw4.symm; subst hw4) | (go_at_call 62; (with_reducible refine (HB0.out HX3.out bel).mono ?_); rintro e w5 ⟨rfl, hx3⟩; have HX5 := Lib.hid hx3; clear hx3) | (go_at_call 61; (with_reducible refine (leads_at HX5.out bel 17 HF1.out).mono ?_); rintro e w6 ⟨P1, k1, rfl, hcl, hp1, hq1, hx6, ht6⟩; have HCL := Lib.hid hcl; have HP1 := Lib.hid hp1; have HQ1 := Lib.hid hq1; have HX6 := Lib.hid hx6; have HT6 := Lib.hid ht6; unfold cloV; clear hcl hp1 hq1 hx6 ht6))
     have HXM : Hid (CT w0 P1 w6 w6 cb m s3) := Lib.hid (by rw [← HS3.out]; exact HX6.out.ct)
     have HCM := HCL
     have HQM := HQ1
     have HTM := Lib.hid (HTS.out.trans (HT6.out.mono (fun k _ z q => z (HSUB.out k q))))
     have HSM : Hid (∀ k, P k → P1 k) := Lib.hid (fun k q => HP1.out k (HSUB.out k q))
     have xb9 := (HT6.out.block w.heap.size HBX.out (fun z => z HPX.out)).trans HXB.out
     have e5 : w6.cell? ⟨w.heap.size, 5, none⟩ = some (.slice (some ⟨b, off, none⟩) 2 q.ck) := cell_in xb9 rfl
     have hk1 := HK1.out.same (HX6.out.stat.block b HBL.out)
     have j0 := hk1.c0
     have j1 := hk1.c1
     have j2 := hk1.c2
     have j3 := hk1.c3
     have j4 := hk1.c4
     have j5 := hk1.c5
     have hb9 : b < w6.heap.size := Nat.lt_of_lt_of_le HBL.out HX6.out.stat.size
     clear xb9 hk1
     go_wp2_with (first | (go_at_call 62; (with_reducible refine (HB1.out HXM.out bel).mono ?_); rintro e w9 ⟨rfl, hx3⟩; have HX9 := Lib.hid hx3; clear hx3) | (go_at_call 45; (with_reducible refine (emit_at HX9.out bel 12 0 0 HFt.out).mono ?_); rintro e w10 ⟨rfl, hx3⟩; have HX10 := Lib.hid hx3; clear hx3) | (go_at_call 75; (with_reducible refine (here_at HX10.out bel).mono ?_); rw [HN4.out]; rintro e w4 ⟨rfl, hw4⟩; replace hw4 := hw4.symm; subst hw4) | (go_at_call 45; (with_reducible refine (emit_at HX10.out bel 16 0 0 HF4.out).mono ?_); rintro e w11 ⟨rfl, hx3⟩; have HX11 := Lib.hid hx3; clear hx3) | (go_at_call 77; (with_reducible refine (to_at HX11.out bel n4 HA4.out 16 na HNA2.out HF5.out).mono ?_); rintro e w12 ⟨rfl, hx3⟩; have HX12 := Lib.hid hx3; have HC12 := Lib.hid (HCM.out.turns hx3.2 (fun k hk z => z (HQM.out k hk))); clear hx3) | (go_at_call 76; (with_reducible refine (lead1_at HX12.out bel HC12.out HQM.out HA5.out HF6.out).mono ?_); rintro e w13 ⟨rfl, hx3⟩; have HX13 := Lib.hid hx3; clear hx3) | (go_at_call 45; (with_reducible refine (emit_at HX13.out bel 2 0 0 HF7.out).mono ?_); rintro e w14 ⟨rfl, hx3⟩; have HX14 := Lib.hid hx3; clear hx3))
     go_ret
     rw [HEQ.out, HLO.out]
     exact ⟨rfl, CT.deep HTM.out HX14.out HSM.out HH.out.low⟩
  ·have z1 : (nk == 2) = false := by simpa using hm
   have z2 : ((nk : Int) == 2) = false := by simp; omega
   have z3 : ¬ ((nk : Int) = 2) := by omega
   have HLO : Hid (isLoop x = none) := Lib.hid (by
    unfold isLoop
    rw [if_pos HW.out.1]
    split
    ·rename_i a b e
     have h9 := HNK.out
     rw [e] at h9
     simp at h9
     omega
    ·rfl)
   clear hm
   go_enter Try.func72, Try.ntmps72
   go_wp2_with fail
   go_ret
   rw [show loSt f x s = s from by unfold loSt; rw [HLO.out], HLO.out]
   exact ⟨rfl, HH.out.ct.below bel⟩
end Go.Proofs.Ytnojndgmgkgnpaa

/- Chapter 10: the reference's parser: expressions. -/
import Derived.Test.YtnojndgmgkgnpaaPJ0
namespace Go.Proofs.Ytnojndgmgkgnpaa
open Go.ChangeShapes Go.WideShapes Go.ChangeAt Go.RowKit Go.Deep Go.Joins Go.Maps
set_option linter.unusedVariables false
set_option linter.unusedSimpArgs false
/-- a node under way in the box at nx, the result's box at w's end -/
structure Xw (w W : World) (pb : Nat) (v : Value) (T : Tks) (s : PSt) (nx : Nat) (x : NodT) (q : NS) : Prop where
 pt : PT pb v T w W s
 pl : pb < w.heap.size
 vl : ∀ k, v.ownBlock = some k → k < w.heap.size
 nl : w.heap.size < nx
 res : W.heap[w.heap.size]? = some (.cells #[.int .i64 0, .string eB, .int .i64 0, .slice none 0 0, .slice none 0 0, .slice none 0 0] 25 (0, 0))
 box : W.heap[nx]? = some (.cells #[.int .i64 x.kind, .string x.text, .int .i64 x.num, .slice q.pn x.names.length q.cn, .slice q.pt x.temps.length q.ct, .slice q.pk x.kids.length q.ck] 25 (0, 0))
 nd : IsNd W (fun b => w.heap.size < b ∧ b ≠ nx) x q
section
variable {w W W1 w' : World} {pb nx : Nat} {v : Value} {T : Tks} {s s' : PSt} {x y : NodT} {q q2 : NS}
theorem Xw.below (h : Xw w W pb v T s nx x q) (hb : Below W.heap.size W w') : Xw w w' pb v T s nx x q :=
 ⟨h.pt.below hb, h.pl, h.vl, h.nl, (hb.block _ (lt_of_block h.res)).trans h.res, (hb.block _ (lt_of_block h.box)).trans h.box, h.nd.under hb⟩
theorem Xw.go (h : Xw w W pb v T s nx x q) (hb : Below W.heap.size W W1) (hx : PT pb v T W1 w' s') : Xw w w' pb v T s' nx x q :=
 ⟨(h.pt.below hb).go hx, h.pl, h.vl, h.nl, PT.keepB hb hx h.res (by have := h.pl; omega), PT.keepB hb hx h.box (by have := h.pl; have := h.nl; omega), PT.keepN hb hx h.nd (fun b z e => by have := z.1; have := h.pl; omega)⟩
theorem Xw.nb (h : Xw w W pb v T s nx x q) : ∀ b, (fun b => w.heap.size < b ∧ b ≠ nx) b → b ≠ pb := fun b z e => by have := z.1; have := h.pl; omega
/-- another node is stored into the box -/
theorem Xw.set (h : Xw w W pb v T s nx x q) (hb : Below W.heap.size W W1) (hx : PT pb v T W1 w' s') (hn : IsNd w' (fun b => (fun b => w.heap.size < b ∧ b ≠ nx) b ∨ W1.heap.size ≤ b) y q2) : Xw w ((((((w'.setCell ⟨nx, 0, none⟩ (.int .i64 y.kind)).setCell ⟨nx, 1, none⟩ (.string y.text)).setCell ⟨nx, 2, none⟩ (.int .i64 y.num)).setCell ⟨nx, 3, none⟩ (.slice q2.pn y.names.length q2.cn)).setCell ⟨nx, 4, none⟩ (.slice q2.pt y.temps.length q2.ct)).setCell ⟨nx, 5, none⟩ (.slice q2.pk y.kids.length q2.ck)) pb v T s' nx y q2 := by
 have h1 := h.go hb hx
 have ht : Turns (fun k => k = nx) w' ((((((w'.setCell ⟨nx, 0, none⟩ (.int .i64 y.kind)).setCell ⟨nx, 1, none⟩ (.string y.text)).setCell ⟨nx, 2, none⟩ (.int .i64 y.num)).setCell ⟨nx, 3, none⟩ (.slice q2.pn y.names.length q2.cn)).setCell ⟨nx, 4, none⟩ (.slice q2.pt y.temps.length q2.ct)).setCell ⟨nx, 5, none⟩ (.slice q2.pk y.kids.length q2.ck)) := six_turns (T := fun k => k = nx) (Turns.refl _ _) nx rfl
 have h2 := h.nl
 have h3 := Nat.lt_of_lt_of_le (lt_of_block h.box) hb.size
 refine ⟨h1.pt.turned ht (fun k e => by have e9 : k = nx := e; exact ⟨by omega, by have := h.pl; omega, fun z => by have := h.vl k z; omega⟩), h.pl, h.vl, h.nl, (ht.block _ (lt_of_block h1.res) (fun e => by have e9 : w.heap.size = nx := e; omega)).trans h1.res, agg_set6 h1.box, ?_⟩
 exact (hn.more (D' := (fun b => w.heap.size < b ∧ b ≠ nx)) (fun b z _ => z.elim id (fun z => ⟨by omega, by omega⟩))).turns ht (fun b z _ e => z.2 e) (fun _ z => z)
theorem Xw.fin (h : Xw w W pb v T s nx x q) (ht : Turns (fun k => k = w.heap.size) W w') : PT pb v T w w' s ∧ IsNd w' (fun b => False ∨ w.heap.size ≤ b) x q :=
 ⟨h.pt.turned ht (fun k e => by have e9 : k = w.heap.size := e; exact ⟨by omega, by have := h.pl; omega, fun z => by have := h.vl k z; omega⟩), h.nd.turns ht (fun b z _ e => by have e9 : b = w.heap.size := e; have := z.1; omega) (fun b z => .inr (Nat.le_of_lt z.1))⟩
end
set_option maxRecDepth 100000 in
set_option maxHeartbeats 16000000 in
theorem slice_tail {x : NodT} {q : NS} {w0 : World} {D0 : Nat → Prop} (h0 : IsNd w0 D0 x q) (hne : x.kids ≠ []) : ∃ p' c', (∀ w : World, (Instr.slice 23 (.slice q.pk x.kids.length q.ck) (some (.int .i64 1)) none none).run Try.prog w = .ok (.slice p' (x.kids.length - 1) c') w) ∧ ∀ (W : World) (D : Nat → Prop) (t : ByteArray), t.size ≤ big63 → IsNd W D x q → IsNd W D (.node 7 t 0 [] [] (x.kids.drop 1)) ⟨none, 0, none, 0, p', c'⟩ := by
 have hl : 0 < x.kids.length := List.length_pos_iff.2 hne
 obtain ⟨b, off, q', hpk, hbl, _, _, _⟩ := h0.kid hl
 have hk := h0.ok.klen
 refine ⟨if q.ck = 1 then some ⟨b, off, none⟩ else some ⟨b, off + 1 * 6, none⟩, q.ck - 1, fun w => ?_, fun W D t ht h => ?_⟩
 ·rw [hpk, run_slice_l w 23 _ x.kids.length q.ck Try.underlying23 .i64 1 (by omega) (by omega)]
  have hs : (sizeOf (Try.prog.elem 23)).run Try.prog w = .ok 6 w := by kernel_rfl
  rw [hs]
  simp only [Result.andThen, sliced]
  have e1 : (1 : Int).toNat = 1 := rfl
  rw [e1]
  by_cases e : q.ck = 1
  ·rw [if_pos e, if_pos e]
  ·rw [if_neg e, if_neg e]; rfl
 ·cases h with
  | node x q Q k1 k2 k3 k4 k5 =>
   refine IsNd.over (fun i => Q (i + 1)) ⟨by decide, by decide⟩ ⟨by decide, by decide⟩ ht ⟨by rw [List.length_drop]; omega, by omega⟩ (fun i hi => ?_) (fun i hi => ?_)
   ·have hi2 : i + 1 < x.kids.length := by rw [List.length_drop] at hi; omega
    obtain ⟨b2, off2, f1, f2, f3, f4⟩ := k4 (i + 1) hi2
    rw [hpk] at f1
    cases f1
    refine ⟨b, off + 1 * 6, by rw [if_neg (by omega)], f2, f3, ?_⟩
    have e : (x.kids.drop 1)[i] = x.kids[i + 1] := by rw [List.getElem_drop]; congr 1; omega
    rw [e, show off + 1 * 6 + i * 6 = off + (i + 1) * 6 from by omega]
    exact f4
   ·have hi2 : i + 1 < x.kids.length := by rw [List.length_drop] at hi; omega
    have e : (x.kids.drop 1)[i] = x.kids[i + 1] := by rw [List.getElem_drop]; congr 1; omega
    rw [e]
    exact k5 (i + 1) hi2
section
variable {w W W1 w' : World} {D : Nat → Prop} {ob pb : Nat} {v : Value} {T : Tks} {s : PSt} {kd : Int} {tv : ByteArray} {vr : Value} {ps : List NP}
theorem Mw.base (h : Mw w W D ob pb v T s kd tv vr ps) (hb : Below W.heap.size W w') : ob + 1 ≤ w'.heap.size := Nat.succ_le_of_lt (Nat.lt_of_lt_of_le (lt_of_block h.out) hb.size)
theorem Mw.pushT (h : Mw w W D ob pb v T s kd tv vr ps) (hb : Below W.heap.size W W1) (ht : Turns (fun k => vr.ownBlock = some k) W1 w') (v' : Value) : Turns (fun k => vr.ownBlock = some k ∨ k = ob) W (w'.setCell ⟨ob, 5, none⟩ v') :=
 ((Turns.of_below hb).trans (ht.mono (fun k _ e => .inl e))).setCell ⟨ob, 5, none⟩ _ (.inl (.inr rfl))
end
theorem casc_step {a i j : Nat} (h : a ≤ 2 + i) (h2 : i + 1 ≤ j) : a + 1 ≤ 2 + j := by omega
theorem fuel_step {n g i j : Nat} (h : n < g + i) (h1 : i < n) (h2 : i + 1 ≤ j) : n < (g - 1) + j := by omega
/-- the token behind is none of the last -/
theorem ahd1_lt {T : Tks} {s : PSt} (hok : TokOk T) (h : (ahd T s 1).kind = 9) : s.i + 1 < T.length := by
 rcases Nat.lt_or_ge (s.i + 1) T.length with z | z
 ·exact z
 ·unfold ahd at h
  rw [if_pos z, hok.last] at h
  exact absurd h (by decide)
set_option maxRecDepth 100000 in
set_option maxHeartbeats 16000000 in
theorem expr_go {f : Nat} {w : World} {pb : Nat} {v : Value} {T : Tks} {s : PSt} (hp : PSpec T f) (h : PW w pb v T s) (hok : TokOk T) (hi : s.i ≤ T.length) (hfu : 8 * (T.length - s.i) + 5 < f + 1) : Calls Try.prog 26 #[.pointer (some ⟨pb, 0, none⟩)] w (NdP (fun _ => False) pb v T (exprS T (rcF T f) s) w) := by
 obtain ⟨PO, hPO⟩ : ∃ PO, PO = NdP (fun _ => False) pb v T (exprS T (rcF T f) s) w := ⟨_, rfl⟩
 rw [← hPO]
 have HPO := Lib.hid hPO
 clear hPO
 have HOK := Lib.hid hok
 have HI := Lib.hid hi
 have HFU : Hid (8 * (T.length - s.i) + 5 < f + 1) := Lib.hid hfu
 have hpl := lt_of_block h.box
 have HPL := Lib.hid hpl
 have HOG : Hid (∀ k, v.ownBlock = some k → k < w.heap.size) := Lib.hid (fun k e => (World.ownsRow.lt h.row k e).2)
 obtain ⟨t, ht⟩ : ∃ t, ahd T s 0 = t := ⟨_, rfl⟩
 have HT := Lib.hid ht
 obtain ⟨t1, ht1⟩ : ∃ t, ahd T s 1 = t := ⟨_, rfl⟩
 have HT1 := Lib.hid ht1
 obtain ⟨b1, hb1⟩ : ∃ b, isT T s 1 eB = b := ⟨_, rfl⟩
 have HB1 := Lib.hid hb1
 have hf0 := tfld0
 have hf1 := tfld1
 clear hok hi hfu ht ht1 hb1
 have H0 : Hid (PW (w.alloc (.cells #[.int .i64 0, .string eB, .int .i64 0, .slice none 0 0, .slice none 0 0, .slice none 0 0] 25)) pb v T s ∧ Below w.heap.size w (w.alloc (.cells #[.int .i64 0, .string eB, .int .i64 0, .slice none 0 0, .slice none 0 0, .slice none 0 0] 25)) ∧ (w.alloc (.cells #[.int .i64 0, .string eB, .int .i64 0, .slice none 0 0, .slice none 0 0, .slice none 0 0] 25)).heap[w.heap.size]? = some (.cells #[.int .i64 0, .string eB, .int .i64 0, .slice none 0 0, .slice none 0 0, .slice none 0 0] 25 (0, 0)) ∧ pb ≠ w.heap.size) := Lib.hid ⟨h.below ((Below.refl _ _).alloc (Nat.le_refl _) _), (Below.refl _ _).alloc (Nat.le_refl _) _, heap_alloc_new w _, by have := lt_of_block h.box; omega⟩
 clear h
 go_enter Try.func26, Try.ntmps26
 go_upto_region 1 with fail
 have h1 := H0.out
 obtain ⟨w1, hw1⟩ : ∃ w1, w.alloc (.cells #[.int .i64 0, .string eB, .int .i64 0, .slice none 0 0, .slice none 0 0, .slice none 0 0] 25) = w1 := ⟨_, rfl⟩
 rw [hw1] at h1 ⊢
 clear hw1
 have hzl := lt_of_block h1.2.2.1
 have hne := h1.2.2.2
 have H1 := Lib.hid h1
 clear h1 H0
 have HX : Hid (PT pb v T w w1 s) := Lib.hid ⟨H1.out.1, Turns.of_below H1.out.2.1⟩
 have HZ := Lib.hid H1.out.2.2.1
 have hz9 := HZ.out
 obtain ⟨n0, n1, n2, n3, n4, n5, nr0, nr1, nr2, nr3, nr4, nr5⟩ := cf6 (hz9)
 clear H1 hz9
 obtain ⟨ba, hba⟩ : ∃ b, (b1 && t1.kind == 9) = b := ⟨_, rfl⟩
 have HBA := Lib.hid hba
 clear hba
 go_cut [14] (fun v14 wx => v14 = .bool ba ∧ PT pb v T w wx s ∧ wx.heap[w.heap.size]? = some (.cells #[.int .i64 0, .string eB, .int .i64 0, .slice none 0 0, .slice none 0 0, .slice none 0 0] 25 (0, 0)))
 case first =>
  cases b1 with
  | false =>
   have e9 : ba = false := by rw [← HBA.out]; rfl
   go_wp2_with (first | (go_at_call 22; (with_reducible refine (is_at HX.out.1.pt bel HOK.out 1 eB).mono ?_); rw [HB1.out]; rintro e wa ⟨rfl, hx⟩; have hz9 := PT.keepB bel hx HZ.out (by have := HPL.out; omega); have hx9 := (HX.out.below bel).go hx; clear HZ HX; have HZ := Lib.hid hz9; have HX := Lib.hid hx9; (try clear n0 nr0 n1 nr1 n2 nr2 n3 nr3 n4 nr4 n5 nr5); obtain ⟨n0, n1, n2, n3, n4, n5, nr0, nr1, nr2, nr3, nr4, nr5⟩ := cf6 (hz9); clear hx9 hz9 hx))
   go_meet
   exact ⟨by rw [e9], HX.out, HZ.out⟩
  | true =>
   obtain ⟨k9, hk9⟩ : ∃ b, (t1.kind == 9) = b := ⟨_, rfl⟩
   have e9 : ba = k9 := by rw [← HBA.out, hk9]; rfl
   go_wp2_with (first | (go_at_call 22; (with_reducible refine (is_at HX.out.1.pt bel HOK.out 1 eB).mono ?_); rw [HB1.out]; rintro e wa ⟨rfl, hx⟩; have hz9 := PT.keepB bel hx HZ.out (by have := HPL.out; omega); have hx9 := (HX.out.below bel).go hx; clear HZ HX; have HZ := Lib.hid hz9; have HX := Lib.hid hx9; (try clear n0 nr0 n1 nr1 n2 nr2 n3 nr3 n4 nr4 n5 nr5); obtain ⟨n0, n1, n2, n3, n4, n5, nr0, nr1, nr2, nr3, nr4, nr5⟩ := cf6 (hz9); clear hx9 hz9 hx) | (go_at_call 27; (with_reducible refine (ahead1_at HX.out.1.pt bel HOK.out HT1.out).mono ?_); rintro e wc ⟨rfl, hx⟩; have hz9 := PT.keepB bel hx HZ.out (by have := HPL.out; omega); have hx9 := (HX.out.below bel).go hx; clear HZ HX; have HZ := Lib.hid hz9; have HX := Lib.hid hx9; (try clear n0 nr0 n1 nr1 n2 nr2 n3 nr3 n4 nr4 n5 nr5); obtain ⟨n0, n1, n2, n3, n4, n5, nr0, nr1, nr2, nr3, nr4, nr5⟩ := cf6 (hz9); clear hx9 hz9 hx))
   go_meet
   exact ⟨by rw [e9, ← hk9], HX.out, HZ.out⟩
 case rest =>
  obtain ⟨rfl, hx9, hz9⟩ := hcut
  clear HX HZ
  (try clear n0 nr0 n1 nr1 n2 nr2 n3 nr3 n4 nr4 n5 nr5)
  rename World => wt
  have HX := Lib.hid hx9
  have HZ := Lib.hid hz9
  obtain ⟨n0, n1, n2, n3, n4, n5, nr0, nr1, nr2, nr3, nr4, nr5⟩ := cf6 (hz9)
  clear hx9 hz9
  cases ba with
  | true =>
   have HB1 : Hid (isT T s 1 eB = true) := Lib.hid (by have h9 := HBA.out; rw [HB1.out]; simp at h9; exact h9.1)
   have HK9 : Hid (t1.kind = 9) := Lib.hid (by have h9 := HBA.out; simp at h9; exact h9.2)
   have HLT := Lib.hid (isT_lt HB1.out HOK.out (by decide))
   have HLT2 := Lib.hid (ahd1_lt HOK.out (by rw [HT1.out]; exact HK9.out))
   have HI1 : Hid ((takeT s).i ≤ T.length) := Lib.hid HLT.out
   have HI2 : Hid ((takeT (takeT s)).i ≤ T.length) := Lib.hid HLT2.out
   have HF5 : Hid (8 * (T.length - (takeT (takeT s)).i) + 5 < f) := Lib.hid (by have := HFU.out; have := HLT2.out; show 8 * (T.length - (s.i + 1 + 1)) + 5 < f; omega)
   obtain ⟨⟨x, s6⟩, hr0⟩ : ∃ r, (rcF T f).expr (takeT (takeT s)) = r := ⟨_, rfl⟩
   have HR0 := Lib.hid hr0
   obtain ⟨t2, ht2⟩ : ∃ t, ahd T (takeT s) 0 = t := ⟨_, rfl⟩
   have HT2 := Lib.hid ht2
   have HE : Hid (exprS T (rcF T f) s = (.node 6 (tx t) 0 [] [] [x], s6)) := Lib.hid (by
    unfold exprS
    rw [if_pos (by rw [HB1.out, HT1.out, HK9.out]; rfl), HT.out, hr0])
   clear hr0 ht2
   go_upto_region 4 with (first | (go_at_call 22; (with_reducible refine (is_at HX.out.1.pt bel HOK.out 1 eB).mono ?_); rw [HB1.out]; rintro e wa ⟨rfl, hx⟩; have hz9 := PT.keepB bel hx HZ.out (by have := HPL.out; omega); have hx9 := (HX.out.below bel).go hx; clear HZ HX; have HZ := Lib.hid hz9; have HX := Lib.hid hx9; (try clear n0 nr0 n1 nr1 n2 nr2 n3 nr3 n4 nr4 n5 nr5); obtain ⟨n0, n1, n2, n3, n4, n5, nr0, nr1, nr2, nr3, nr4, nr5⟩ := cf6 (hz9); clear hx9 hz9 hx) | (go_at_call 27; (with_reducible refine (ahead1_at HX.out.1.pt bel HOK.out HT1.out).mono ?_); rintro e wc ⟨rfl, hx⟩; have hz9 := PT.keepB bel hx HZ.out (by have := HPL.out; omega); have hx9 := (HX.out.below bel).go hx; clear HZ HX; have HZ := Lib.hid hz9; have HX := Lib.hid hx9; (try clear n0 nr0 n1 nr1 n2 nr2 n3 nr3 n4 nr4 n5 nr5); obtain ⟨n0, n1, n2, n3, n4, n5, nr0, nr1, nr2, nr3, nr4, nr5⟩ := cf6 (hz9); clear hx9 hz9 hx) | (go_at_call 23; (with_reducible refine (take_any (HX.out.1.below bel) HOK.out HI.out HT.out).mono ?_); rintro e wd ⟨rfl, hx⟩; have hz9 := PT.keepB bel hx HZ.out (by have := HPL.out; omega); have hx9 := (HX.out.below bel).go hx; clear HZ HX; have HZ := Lib.hid hz9; have HX := Lib.hid hx9; (try clear n0 nr0 n1 nr1 n2 nr2 n3 nr3 n4 nr4 n5 nr5); obtain ⟨n0, n1, n2, n3, n4, n5, nr0, nr1, nr2, nr3, nr4, nr5⟩ := cf6 (hz9); clear hx9 hz9 hx) | (go_at_call 23; (with_reducible refine (take_any (HX.out.1.below bel) HOK.out HI1.out HT2.out).mono ?_); rintro e wt ⟨rfl, hx⟩; have hz9 := PT.keepB bel hx HZ.out (by have := HPL.out; omega); have hx9 := (HX.out.below bel).go hx; clear HZ HX; have HZ := Lib.hid hz9; have HX := Lib.hid hx9; (try clear n0 nr0 n1 nr1 n2 nr2 n3 nr3 n4 nr4 n5 nr5); obtain ⟨n0, n1, n2, n3, n4, n5, nr0, nr1, nr2, nr3, nr4, nr5⟩ := cf6 (hz9); clear hx9 hz9 hx))
   go_upto_region 5 with (first | (go_at_call 26; (with_reducible refine (hp.expr (HX.out.1.below bel) HI2.out HF5.out).mono ?_); rw [HR0.out]; rintro e w6 ⟨q, rfl, hx, hny⟩; unfold ndV; have HNW := Lib.hid (Nat.le_trans (show Below wt.heap.size wt _ from bel).size hx.2.size); have HNY := Lib.hid (hny.more (D' := fun b => w.heap.size < b) (fun b z _ => z.elim False.elim (fun z => Nat.lt_of_lt_of_le (lt_of_block HZ.out) (Nat.le_trans (show Below wt.heap.size wt _ from bel).size z)))); clear hny; have hz9 := PT.keepB bel hx HZ.out (by have := HPL.out; omega); have hx9 := (HX.out.below bel).go hx; clear HZ HX; have HZ := Lib.hid hz9; have HX := Lib.hid hx9; (try clear n0 nr0 n1 nr1 n2 nr2 n3 nr3 n4 nr4 n5 nr5); obtain ⟨n0, n1, n2, n3, n4, n5, nr0, nr1, nr2, nr3, nr4, nr5⟩ := cf6 (hz9); clear hx9 hz9 hx))
   have hal := (Below.refl w6.heap.size w6).alloc (Nat.le_refl _) (.cells #[.int .i64 x.kind, .string x.text, .int .i64 x.num, .slice q.pn x.names.length q.cn, .slice q.pt x.temps.length q.ct, .slice q.pk x.kids.length q.ck] 25)
   have h7 := heap_alloc_new w6 (.cells #[.int .i64 x.kind, .string x.text, .int .i64 x.num, .slice q.pn x.names.length q.cn, .slice q.pt x.temps.length q.ct, .slice q.pk x.kids.length q.ck] 25)
   have hz9 := (hal.block _ (lt_of_block HZ.out)).trans HZ.out
   have hx9 := HX.out.below hal
   have hny := (HNY.out.lt.under hal).more (D' := fun b => w.heap.size < b ∧ b ≠ w6.heap.size) (fun b z _ => ⟨z.1, by have := z.2; omega⟩)
   have hnl : w.heap.size < w6.heap.size := lt_of_block HZ.out
   obtain ⟨wb, hwb⟩ : ∃ wb, w6.alloc (.cells #[.int .i64 x.kind, .string x.text, .int .i64 x.num, .slice q.pn x.names.length q.cn, .slice q.pt x.temps.length q.ct, .slice q.pk x.kids.length q.ck] 25) = wb := ⟨_, rfl⟩
   obtain ⟨nx, hnx⟩ : ∃ nx, w6.heap.size = nx := ⟨_, rfl⟩
   rw [hwb] at h7 hz9 hx9 hny ⊢
   rw [hnx] at h7 hny hnl ⊢
   have hm9 : Xw w wb pb v T _ nx x q := ⟨hx9, HPL.out, HOG.out, hnl, hz9, h7, hny⟩
   clear HX HZ HNY hal hx9 hz9 hny h7 hwb hnx
   (try clear n0 nr0 n1 nr1 n2 nr2 n3 nr3 n4 nr4 n5 nr5)
   have HM := Lib.hid hm9
   obtain ⟨n0, n1, n2, n3, n4, n5, nr0, nr1, nr2, nr3, nr4, nr5⟩ := cf6 (hm9.res)
   obtain ⟨m0, m1, m2, m3, m4, m5, mr0, mr1, mr2, mr3, mr4, mr5⟩ := cf6 (hm9.box)
   have hb9 : Below wb.heap.size wb (wb.alloc (.cells #[.int .i64 x.kind, .string x.text, .int .i64 x.num, .slice q.pn x.names.length q.cn, .slice q.pt x.temps.length q.ct, .slice q.pk x.kids.length q.ck] 25)) := (Below.refl _ _).alloc (Nat.le_refl _) _
   have ha9 := hm9.below hb9
   have hnew := heap_alloc_new wb (.cells #[.int .i64 x.kind, .string x.text, .int .i64 x.num, .slice q.pn x.names.length q.cn, .slice q.pt x.temps.length q.ct, .slice q.pk x.kids.length q.ck] 25)
   have HA9 := Lib.hid ha9
   have HNEW := Lib.hid hnew
   obtain ⟨a0, a1, a2, a3, a4, a5, ar0, ar1, ar2, ar3, ar4, ar5⟩ := cf6 (ha9.res)
   clear hm9 hb9 ha9 hnew
   go_wp2_with fail
   obtain ⟨W9, hW9⟩ : ∃ W9, W9 = (((((((wb.alloc (.cells #[.int .i64 x.kind, .string x.text, .int .i64 x.num, .slice q.pn x.names.length q.cn, .slice q.pt x.temps.length q.ct, .slice q.pk x.kids.length q.ck] 25)).setCell ⟨w.heap.size, 0, none⟩ (.int .i64 6)).setCell ⟨w.heap.size, 1, none⟩ (.string (tx t))).setCell ⟨w.heap.size, 2, none⟩ (.int .i64 0)).setCell ⟨w.heap.size, 3, none⟩ (.slice none 0 0)).setCell ⟨w.heap.size, 4, none⟩ (.slice none 0 0)).setCell ⟨w.heap.size, 5, none⟩ (.slice (some ⟨wb.heap.size, 0, none⟩) 1 1)) := ⟨_, rfl⟩
   have h9 : W9.heap[w.heap.size]? = some (.cells #[.int .i64 6, .string (tx t), .int .i64 0, .slice none 0 0, .slice none 0 0, .slice (some ⟨wb.heap.size, 0, none⟩) 1 1] 25 (0, 0)) := by rw [hW9]; exact agg_set6 HA9.out.res
   obtain ⟨z0, z1, z2, z3, z4, z5⟩ := cc6 h9
   have HT9 : Hid (Turns (fun k => k = w.heap.size) (wb.alloc (.cells #[.int .i64 x.kind, .string x.text, .int .i64 x.num, .slice q.pn x.names.length q.cn, .slice q.pt x.temps.length q.ct, .slice q.pk x.kids.length q.ck] 25)) W9) := Lib.hid (by rw [hW9]; exact six_turns (T := fun k => k = w.heap.size) (Turns.refl _ _) (w.heap.size) rfl)
   rw [← hW9]
   clear hW9 h9
   refine bodyPost_ret (v := .agg #[.int .i64 6, .string (tx t), .int .i64 0, .slice none 0 0, .slice none 0 0, .slice (some ⟨wb.heap.size, 0, none⟩) 1 1]) (by simp [results, Try.results26, go_sem, z0, z1, z2, z3, z4, z5]) rfl ?_
   rw [HPO.out, HE.out]
   have hfn := HA9.out.fin HT9.out
   have hnl := HA9.out.nl
   have hln := lt_of_block HM.out.box
   refine ⟨⟨none, 0, none, 0, some ⟨wb.heap.size, 0, none⟩, 1⟩, rfl, hfn.1, IsNd.one ⟨by decide, by decide⟩ ⟨by decide, by decide⟩ (tx_size HOK.out HT.out) ((HT9.out.block _ (lt_of_block HNEW.out) (fun e => by have e9 : wb.heap.size = w.heap.size := e; omega)).trans HNEW.out) (.inr (by omega)) hfn.2⟩
  | false =>
   have HNA : Hid (¬ (isT T s 1 eB && (ahd T s 1).kind == 9) = true) := Lib.hid (by rw [HB1.out, HT1.out, HBA.out]; decide)
   have HF1 : Hid (8 * (T.length - s.i) + 1 < f) := Lib.hid (by have := HFU.out; omega)
   obtain ⟨⟨x, s1⟩, hr0⟩ : ∃ r, (rcF T f).prim s = r := ⟨_, rfl⟩
   have HR0 := Lib.hid hr0
   have g0 := (rcF_go HOK.out.at0 f).prim s
   rw [hr0] at g0
   have HI1 : Hid (s1.i ≤ T.length) := Lib.hid (g0.go.top HI.out)
   obtain ⟨⟨x1, s2⟩, hr1⟩ : ∃ r, unT T x s1 = r := ⟨_, rfl⟩
   have HR1 := Lib.hid hr1
   have g1 := un_gp HOK.out.at0 x s1 g0.kids
   rw [hr1] at g1
   have HI2 : Hid (s2.i ≤ T.length) := Lib.hid (g1.go.top HI1.out)
   obtain ⟨⟨x2, s3⟩, hr2⟩ : ∃ r, (rcF T f).bin x1 s2 = r := ⟨_, rfl⟩
   have HR2 := Lib.hid hr2
   have g2 := (rcF_go HOK.out.at0 f).bin x1 s2 g1.kids
   rw [hr2] at g2
   have HI3 : Hid (s3.i ≤ T.length) := Lib.hid (g2.go.top HI2.out)
   obtain ⟨⟨x3, s4⟩, hr3⟩ : ∃ r, (rcF T f).kw x2 s3 = r := ⟨_, rfl⟩
   have HR3 := Lib.hid hr3
   have g3 := (rcF_go HOK.out.at0 f).kw x2 s3 g2.kids
   rw [hr3] at g3
   have HI4 : Hid (s4.i ≤ T.length) := Lib.hid (g3.go.top HI3.out)
   have l0 : s.i ≤ s1.i := g0.go.le
   have l1 : s1.i ≤ s2.i := g1.go.le
   have l2 : s2.i ≤ s3.i := g2.go.le
   have l3 : s3.i ≤ s4.i := g3.go.le
   have HF2 : Hid (8 * (T.length - s2.i) + 2 < f) := Lib.hid (by have := HFU.out; omega)
   have HF3 : Hid (8 * (T.length - s3.i) + 4 < f) := Lib.hid (by have := HFU.out; omega)
   have HL4 : Hid (s.i ≤ s4.i) := Lib.hid (by omega)
   have HK3 : Hid (x3.kind = 7 → x3.kids ≠ []) := Lib.hid g3.kids
   have HE0 : Hid (exprS T (rcF T f) s = if isT T s4 10 bSemi then (if x3.kind ≠ 7 then (x3, failT s4 (ahd T s4 0) 13) else (.node 8 eB 0 [] [] (cascL T (rcF T f) (T.length + 1) [x3.kids.headD nd0, .node 7 x3.text 0 [] [] (x3.kids.drop 1)] s4).1, (cascL T (rcF T f) (T.length + 1) [x3.kids.headD nd0, .node 7 x3.text 0 [] [] (x3.kids.drop 1)] s4).2)) else (x3, s4)) := Lib.hid (by
    unfold exprS
    rw [if_neg HNA.out, hr0]
    dsimp only
    rw [hr1]
    dsimp only
    rw [hr2]
    dsimp only
    rw [hr3])
   obtain ⟨t4, ht4⟩ : ∃ t, ahd T s4 0 = t := ⟨_, rfl⟩
   have HT4 := Lib.hid ht4
   obtain ⟨bs, hbs⟩ : ∃ b, isT T s4 10 bSemi = b := ⟨_, rfl⟩
   have HBS := Lib.hid hbs
   clear hr0 g0 hr1 g1 hr2 g2 hr3 g3 l0 l1 l2 l3 ht4 hbs
   go_upto_region 7 with (first | (go_at_call 38; (with_reducible refine (hp.prim (HX.out.1.below bel) HI.out HF1.out).mono ?_); rw [HR0.out]; rintro e w6 ⟨q, rfl, hx, hny⟩; unfold ndV; have HNW := Lib.hid (Nat.le_trans (show Below wt.heap.size wt _ from bel).size hx.2.size); have HNY := Lib.hid (hny.more (D' := fun b => w.heap.size < b) (fun b z _ => z.elim False.elim (fun z => Nat.lt_of_lt_of_le (lt_of_block HZ.out) (Nat.le_trans (show Below wt.heap.size wt _ from bel).size z)))); clear hny; have hz9 := PT.keepB bel hx HZ.out (by have := HPL.out; omega); have hx9 := (HX.out.below bel).go hx; clear HZ HX; have HZ := Lib.hid hz9; have HX := Lib.hid hx9; (try clear n0 nr0 n1 nr1 n2 nr2 n3 nr3 n4 nr4 n5 nr5); obtain ⟨n0, n1, n2, n3, n4, n5, nr0, nr1, nr2, nr3, nr4, nr5⟩ := cf6 (hz9); clear hx9 hz9 hx))
   have hal := (Below.refl w6.heap.size w6).alloc (Nat.le_refl _) (.cells #[.int .i64 x.kind, .string x.text, .int .i64 x.num, .slice q.pn x.names.length q.cn, .slice q.pt x.temps.length q.ct, .slice q.pk x.kids.length q.ck] 25)
   have h7 := heap_alloc_new w6 (.cells #[.int .i64 x.kind, .string x.text, .int .i64 x.num, .slice q.pn x.names.length q.cn, .slice q.pt x.temps.length q.ct, .slice q.pk x.kids.length q.ck] 25)
   have hz9 := (hal.block _ (lt_of_block HZ.out)).trans HZ.out
   have hx9 := HX.out.below hal
   have hny := (HNY.out.lt.under hal).more (D' := fun b => w.heap.size < b ∧ b ≠ w6.heap.size) (fun b z _ => ⟨z.1, by have := z.2; omega⟩)
   have hnl : w.heap.size < w6.heap.size := lt_of_block HZ.out
   obtain ⟨wb, hwb⟩ : ∃ wb, w6.alloc (.cells #[.int .i64 x.kind, .string x.text, .int .i64 x.num, .slice q.pn x.names.length q.cn, .slice q.pt x.temps.length q.ct, .slice q.pk x.kids.length q.ck] 25) = wb := ⟨_, rfl⟩
   obtain ⟨nx, hnx⟩ : ∃ nx, w6.heap.size = nx := ⟨_, rfl⟩
   rw [hwb] at h7 hz9 hx9 hny ⊢
   rw [hnx] at h7 hny hnl ⊢
   have hm9 : Xw w wb pb v T _ nx x q := ⟨hx9, HPL.out, HOG.out, hnl, hz9, h7, hny⟩
   clear HX HZ HNY hal hx9 hz9 hny h7 hwb hnx
   (try clear n0 nr0 n1 nr1 n2 nr2 n3 nr3 n4 nr4 n5 nr5)
   have HM := Lib.hid hm9
   obtain ⟨n0, n1, n2, n3, n4, n5, nr0, nr1, nr2, nr3, nr4, nr5⟩ := cf6 (hm9.res)
   obtain ⟨m0, m1, m2, m3, m4, m5, mr0, mr1, mr2, mr3, mr4, mr5⟩ := cf6 (hm9.box)
   clear hm9 hnl
   go_upto_region 8 with (first | (go_at_call 39; (with_reducible refine (un_at (HM.out.pt.1.below bel) HOK.out HI1.out (D := (fun b => w.heap.size < b ∧ b ≠ nx)) HM.out.nb (HM.out.nd.under bel)).mono ?_); rw [HR1.out]; rintro e w7 ⟨q1, rfl, hx, hny⟩; unfold ndV; have hm8 := HM.out.go bel hx; have hm9 := HM.out.set bel hx hny; (try clear n0 nr0 n1 nr1 n2 nr2 n3 nr3 n4 nr4 n5 nr5); (try clear m0 mr0 m1 mr1 m2 mr2 m3 mr3 m4 mr4 m5 mr5); obtain ⟨n0, n1, n2, n3, n4, n5, nr0, nr1, nr2, nr3, nr4, nr5⟩ := cf6 (hm8.res); obtain ⟨m0, m1, m2, m3, m4, m5, mr0, mr1, mr2, mr3, mr4, mr5⟩ := cf6 (hm8.box); have HMS := Lib.hid hm9; clear hx hny hm8 hm9))
   have hm9 := HMS.out
   obtain ⟨w8, hw9⟩ : ∃ wt, ((((((w7.setCell ⟨nx, 0, none⟩ (.int .i64 x1.kind)).setCell ⟨nx, 1, none⟩ (.string x1.text)).setCell ⟨nx, 2, none⟩ (.int .i64 x1.num)).setCell ⟨nx, 3, none⟩ (.slice q1.pn x1.names.length q1.cn)).setCell ⟨nx, 4, none⟩ (.slice q1.pt x1.temps.length q1.ct)).setCell ⟨nx, 5, none⟩ (.slice q1.pk x1.kids.length q1.ck)) = wt := ⟨_, rfl⟩
   rw [hw9] at hm9 ⊢
   clear HM HMS hw9
   (try clear n0 nr0 n1 nr1 n2 nr2 n3 nr3 n4 nr4 n5 nr5)
   (try clear m0 mr0 m1 mr1 m2 mr2 m3 mr3 m4 mr4 m5 mr5)
   have HM := Lib.hid hm9
   obtain ⟨n0, n1, n2, n3, n4, n5, nr0, nr1, nr2, nr3, nr4, nr5⟩ := cf6 (hm9.res)
   obtain ⟨m0, m1, m2, m3, m4, m5, mr0, mr1, mr2, mr3, mr4, mr5⟩ := cf6 (hm9.box)
   clear hm9
   go_upto_region 9 with (first | (go_at_call 40; (with_reducible refine (bin_at hp (HM.out.pt.1.below bel) HI2.out (D := (fun b => w.heap.size < b ∧ b ≠ nx)) HM.out.nb (HM.out.nd.under bel) HF2.out).mono ?_); rw [HR2.out]; rintro e w9 ⟨q2, rfl, hx, hny⟩; unfold ndV; have hm8 := HM.out.go bel hx; have hm9 := HM.out.set bel hx hny; (try clear n0 nr0 n1 nr1 n2 nr2 n3 nr3 n4 nr4 n5 nr5); (try clear m0 mr0 m1 mr1 m2 mr2 m3 mr3 m4 mr4 m5 mr5); obtain ⟨n0, n1, n2, n3, n4, n5, nr0, nr1, nr2, nr3, nr4, nr5⟩ := cf6 (hm8.res); obtain ⟨m0, m1, m2, m3, m4, m5, mr0, mr1, mr2, mr3, mr4, mr5⟩ := cf6 (hm8.box); have HMS := Lib.hid hm9; clear hx hny hm8 hm9))
   have hm9 := HMS.out
   obtain ⟨wA, hw9⟩ : ∃ wt, ((((((w9.setCell ⟨nx, 0, none⟩ (.int .i64 x2.kind)).setCell ⟨nx, 1, none⟩ (.string x2.text)).setCell ⟨nx, 2, none⟩ (.int .i64 x2.num)).setCell ⟨nx, 3, none⟩ (.slice q2.pn x2.names.length q2.cn)).setCell ⟨nx, 4, none⟩ (.slice q2.pt x2.temps.length q2.ct)).setCell ⟨nx, 5, none⟩ (.slice q2.pk x2.kids.length q2.ck)) = wt := ⟨_, rfl⟩
   rw [hw9] at hm9 ⊢
   clear HM HMS hw9
   (try clear n0 nr0 n1 nr1 n2 nr2 n3 nr3 n4 nr4 n5 nr5)
   (try clear m0 mr0 m1 mr1 m2 mr2 m3 mr3 m4 mr4 m5 mr5)
   have HM := Lib.hid hm9
   obtain ⟨n0, n1, n2, n3, n4, n5, nr0, nr1, nr2, nr3, nr4, nr5⟩ := cf6 (hm9.res)
   obtain ⟨m0, m1, m2, m3, m4, m5, mr0, mr1, mr2, mr3, mr4, mr5⟩ := cf6 (hm9.box)
   clear hm9
   go_upto_region 10 with (first | (go_at_call 41; (with_reducible refine (kw_at hp (HM.out.pt.1.below bel) HI3.out (D := (fun b => w.heap.size < b ∧ b ≠ nx)) HM.out.nb (HM.out.nd.under bel) HF3.out).mono ?_); rw [HR3.out]; rintro e wB ⟨q3, rfl, hx, hny⟩; unfold ndV; have hm8 := HM.out.go bel hx; have hm9 := HM.out.set bel hx hny; (try clear n0 nr0 n1 nr1 n2 nr2 n3 nr3 n4 nr4 n5 nr5); (try clear m0 mr0 m1 mr1 m2 mr2 m3 mr3 m4 mr4 m5 mr5); obtain ⟨n0, n1, n2, n3, n4, n5, nr0, nr1, nr2, nr3, nr4, nr5⟩ := cf6 (hm8.res); obtain ⟨m0, m1, m2, m3, m4, m5, mr0, mr1, mr2, mr3, mr4, mr5⟩ := cf6 (hm8.box); have HMS := Lib.hid hm9; clear hx hny hm8 hm9))
   have hm9 := HMS.out
   obtain ⟨wC, hw9⟩ : ∃ wt, ((((((wB.setCell ⟨nx, 0, none⟩ (.int .i64 x3.kind)).setCell ⟨nx, 1, none⟩ (.string x3.text)).setCell ⟨nx, 2, none⟩ (.int .i64 x3.num)).setCell ⟨nx, 3, none⟩ (.slice q3.pn x3.names.length q3.cn)).setCell ⟨nx, 4, none⟩ (.slice q3.pt x3.temps.length q3.ct)).setCell ⟨nx, 5, none⟩ (.slice q3.pk x3.kids.length q3.ck)) = wt := ⟨_, rfl⟩
   rw [hw9] at hm9 ⊢
   clear HM HMS hw9
   (try clear n0 nr0 n1 nr1 n2 nr2 n3 nr3 n4 nr4 n5 nr5)
   (try clear m0 mr0 m1 mr1 m2 mr2 m3 mr3 m4 mr4 m5 mr5)
   have HM := Lib.hid hm9
   obtain ⟨n0, n1, n2, n3, n4, n5, nr0, nr1, nr2, nr3, nr4, nr5⟩ := cf6 (hm9.res)
   obtain ⟨m0, m1, m2, m3, m4, m5, mr0, mr1, mr2, mr3, mr4, mr5⟩ := cf6 (hm9.box)
   clear hm9
   clear HR0 HR1 HR2 HR3 HNW
   cases bs with
   | false =>
    have HE : Hid (exprS T (rcF T f) s = (x3, s4)) := Lib.hid (by rw [HE0.out, if_neg (by rw [HBS.out]; decide)])
    go_wp2_with (first | (go_at_call 22; (with_reducible refine (is_at HM.out.pt.1.pt bel HOK.out 10 bSemi).mono ?_); rw [HBS.out]; rintro e wD ⟨rfl, hx⟩; have hm9 := HM.out.go bel hx; clear HM; have HM := Lib.hid hm9; (try clear n0 nr0 n1 nr1 n2 nr2 n3 nr3 n4 nr4 n5 nr5); (try clear m0 mr0 m1 mr1 m2 mr2 m3 mr3 m4 mr4 m5 mr5); obtain ⟨n0, n1, n2, n3, n4, n5, nr0, nr1, nr2, nr3, nr4, nr5⟩ := cf6 (hm9.res); obtain ⟨m0, m1, m2, m3, m4, m5, mr0, mr1, mr2, mr3, mr4, mr5⟩ := cf6 (hm9.box); clear hm9 hx))
    obtain ⟨W9, hW9⟩ : ∃ W9, W9 = ((((((wD.setCell ⟨w.heap.size, 0, none⟩ (.int .i64 x3.kind)).setCell ⟨w.heap.size, 1, none⟩ (.string x3.text)).setCell ⟨w.heap.size, 2, none⟩ (.int .i64 x3.num)).setCell ⟨w.heap.size, 3, none⟩ (.slice q3.pn x3.names.length q3.cn)).setCell ⟨w.heap.size, 4, none⟩ (.slice q3.pt x3.temps.length q3.ct)).setCell ⟨w.heap.size, 5, none⟩ (.slice q3.pk x3.kids.length q3.ck)) := ⟨_, rfl⟩
    have h9 : W9.heap[w.heap.size]? = some (.cells #[.int .i64 x3.kind, .string x3.text, .int .i64 x3.num, .slice q3.pn x3.names.length q3.cn, .slice q3.pt x3.temps.length q3.ct, .slice q3.pk x3.kids.length q3.ck] 25 (0, 0)) := by rw [hW9]; exact agg_set6 HM.out.res
    obtain ⟨z0, z1, z2, z3, z4, z5⟩ := cc6 h9
    have HT9 : Hid (Turns (fun k => k = w.heap.size) wD W9) := Lib.hid (by rw [hW9]; exact six_turns (T := fun k => k = w.heap.size) (Turns.refl _ _) (w.heap.size) rfl)
    rw [← hW9]
    clear hW9 h9
    refine bodyPost_ret (v := .agg #[.int .i64 x3.kind, .string x3.text, .int .i64 x3.num, .slice q3.pn x3.names.length q3.cn, .slice q3.pt x3.temps.length q3.ct, .slice q3.pk x3.kids.length q3.ck]) (by simp [results, Try.results26, go_sem, z0, z1, z2, z3, z4, z5]) rfl ?_
    rw [HPO.out, HE.out]
    have hfn := HM.out.fin HT9.out
    exact ⟨q3, rfl, hfn.1, hfn.2⟩
   | true =>
    by_cases hk7 : x3.kind = 7
    ·
     have HK7 := Lib.hid hk7
     have hk8 : (x3.kind != 7) = false := by simp [hk7]
     have hne := HK3.out hk7
     clear hk7
     go_upto_region 15 with (first | (go_at_call 22; (with_reducible refine (is_at HM.out.pt.1.pt bel HOK.out 10 bSemi).mono ?_); rw [HBS.out]; rintro e wD ⟨rfl, hx⟩; have hm9 := HM.out.go bel hx; clear HM; have HM := Lib.hid hm9; (try clear n0 nr0 n1 nr1 n2 nr2 n3 nr3 n4 nr4 n5 nr5); (try clear m0 mr0 m1 mr1 m2 mr2 m3 mr3 m4 mr4 m5 mr5); obtain ⟨n0, n1, n2, n3, n4, n5, nr0, nr1, nr2, nr3, nr4, nr5⟩ := cf6 (hm9.res); obtain ⟨m0, m1, m2, m3, m4, m5, mr0, mr1, mr2, mr3, mr4, mr5⟩ := cf6 (hm9.box); clear hm9 hx))
     go_upto_region 16 with fail
     have hm8 := HM.out
     have hal := (Below.refl wD.heap.size wD).alloc (Nat.le_refl _) (.cells #[.int .i64 8, .string eB, .int .i64 0, .slice none 0 0, .slice none 0 0, .slice none 0 0] 25)
     have hnb := lt_of_block hm8.res
     have hm9 : Mw w (wD.alloc (.cells #[.int .i64 8, .string eB, .int .i64 0, .slice none 0 0, .slice none 0 0, .slice none 0 0] 25)) (dOut w wD.heap.size) wD.heap.size pb v T s4 8 eB (.slice none 0 0) [] := ⟨hm8.pt.below hal, hnb, hm8.pl, hm8.vl, (hal.block _ (lt_of_block hm8.res)).trans hm8.res, heap_alloc_new _ _, NdRow.nil _ _ _, fun _ z => z⟩
     have hxb := (hal.block _ (lt_of_block hm8.box)).trans hm8.box
     have hxn := hm8.nd.lt.under hal
     have hxl := lt_of_block hm8.box
     have hnl := hm8.nl
     obtain ⟨wE, hwE⟩ : ∃ wE, wD.alloc (.cells #[.int .i64 8, .string eB, .int .i64 0, .slice none 0 0, .slice none 0 0, .slice none 0 0] 25) = wE := ⟨_, rfl⟩
     obtain ⟨nob, hnob⟩ : ∃ n, wD.heap.size = n := ⟨_, rfl⟩
     rw [hwE] at hm9 hxb hxn ⊢
     rw [hnob] at hm9 hxn hxl hnb ⊢
     obtain ⟨k0, kr, hkk⟩ : ∃ a l, x3.kids = a :: l := by
      cases hq : x3.kids with
      | nil => exact absurd hq hne
      | cons a l => exact ⟨a, l, rfl⟩
     obtain ⟨p', c', hsl, htl⟩ := slice_tail hxn hne
     obtain ⟨kb, ko, qk, hpk, hkl, hkD, hk6, hkn⟩ := hxn.kid (i := 0) (by rw [hkk]; simp)
     rw [show x3.kids[0]'(by rw [hkk]; simp) = k0 from by simp [hkk], Nat.zero_mul, Nat.add_zero] at hk6
     rw [show x3.kids[0]'(by rw [hkk]; simp) = k0 from by simp [hkk]] at hkn
     obtain ⟨n, hn⟩ : ∃ n, x3.kids.length = n := ⟨_, rfl⟩
     rw [hpk, hn] at hxb hsl
     have hn0 : 0 < n := by rw [← hn, hkk]; simp
     have hck : n ≤ q3.ck := by rw [← hn]; exact hxn.ok.klen.1
     have g0 : (0 : Int) < (n : Int) := by omega
     have HKK : Hid ([x3.kids.headD nd0, .node 7 x3.text 0 [] [] (x3.kids.drop 1)] = [k0, (NodT.node 7 x3.text 0 [] [] (x3.kids.drop 1))]) := Lib.hid (by rw [hkk]; rfl)
     have HTL := Lib.hid htl
     have HTX : Hid (x3.text.size ≤ big63) := Lib.hid hxn.ok.text
     have HB7 : Hid (Obj.cells #[.int .i64 7, .string x3.text, .int .i64 0, .slice none 0 0, .slice none 0 0, .slice p' (n - 1) c'] 25 (0, 0) = Obj.cells #[.int .i64 (NodT.node 7 x3.text 0 [] [] (x3.kids.drop 1)).kind, .string (NodT.node 7 x3.text 0 [] [] (x3.kids.drop 1)).text, .int .i64 (NodT.node 7 x3.text 0 [] [] (x3.kids.drop 1)).num, .slice (⟨none, 0, none, 0, p', c'⟩ : NS).pn (NodT.node 7 x3.text 0 [] [] (x3.kids.drop 1)).names.length (⟨none, 0, none, 0, p', c'⟩ : NS).cn, .slice (⟨none, 0, none, 0, p', c'⟩ : NS).pt (NodT.node 7 x3.text 0 [] [] (x3.kids.drop 1)).temps.length (⟨none, 0, none, 0, p', c'⟩ : NS).ct, .slice (⟨none, 0, none, 0, p', c'⟩ : NS).pk (NodT.node 7 x3.text 0 [] [] (x3.kids.drop 1)).kids.length (⟨none, 0, none, 0, p', c'⟩ : NS).ck] 25 (0, 0)) := Lib.hid (by
      have e : (x3.kids.drop 1).length = n - 1 := by rw [List.length_drop, hn]
      show Obj.cells #[.int .i64 7, .string x3.text, .int .i64 0, .slice none 0 0, .slice none 0 0, .slice p' (n - 1) c'] 25 (0, 0) = Obj.cells #[.int .i64 7, .string x3.text, .int .i64 0, .slice none 0 0, .slice none 0 0, .slice p' (x3.kids.drop 1).length c'] 25 (0, 0)
      rw [e])
     have HXL : Hid (nx < nob ∧ w.heap.size < nx) := Lib.hid ⟨hxl, hnl⟩
     have HKD : Hid (kb ≠ nob) := Lib.hid (by have := hkD.2; omega)
     clear HM hm8 hal hwE hnob hne hkk hpk hn htl
     (try clear n0 nr0 n1 nr1 n2 nr2 n3 nr3 n4 nr4 n5 nr5)
     (try clear m0 mr0 m1 mr1 m2 mr2 m3 mr3 m4 mr4 m5 mr5)
     have HM := Lib.hid hm9
     have HXB := Lib.hid hxb
     have HXN := Lib.hid hxn
     have HKN := Lib.hid (hkn.more (D' := fun b => (dOut w nob) b ∧ Value.ownBlock (.slice none 0 0) ≠ some b) (fun b z _ => ⟨⟨z.1.1, by have := z.2; omega⟩, fun e => by cases e⟩))
     have HPB : Hid (([] : List NP).length ≤ 1000000) := Lib.hid (by decide)
     obtain ⟨n0, n1, n2, n3, n4, n5, nr0, nr1, nr2, nr3, nr4, nr5⟩ := cf6 (hm9.res)
     obtain ⟨o0, o1, o2, o3, o4, o5, or0, or1, or2, or3, or4, or5⟩ := cf6 (hm9.out)
     obtain ⟨m0, m1, m2, m3, m4, m5⟩ := cc6 (hxb)
     obtain ⟨a0, a1, a2, a3, a4, a5⟩ := cc6 ((hm9.below ((Below.refl wE.heap.size wE).alloc (Nat.le_refl _) (.cells #[.int .i64 k0.kind, .string k0.text, .int .i64 k0.num, .slice qk.pn k0.names.length qk.cn, .slice qk.pt k0.temps.length qk.ct, .slice qk.pk k0.kids.length qk.ck] 25))).out)
     obtain ⟨c0, c1, c2, c3, c4, c5⟩ := hk6
     have HK6 : Hid (Cells6 wE kb ko k0 qk) := Lib.hid ⟨c0, c1, c2, c3, c4, c5⟩
     clear hm9 hxb hxn hkl hkD hkn hxl hnb hnl
     go_cut [] (fun wx => ∃ A c, Mw w wx (dOut w nob) nob pb v T s4 8 eB (.slice A 1 c) [(k0, qk)] ∧ wx.heap[nx]? = some (.cells #[.int .i64 x3.kind, .string x3.text, .int .i64 x3.num, .slice q3.pn x3.names.length q3.cn, .slice q3.pt x3.temps.length q3.ct, .slice (some ⟨kb, ko, none⟩) n q3.ck] 25 (0, 0)) ∧ IsNd wx (fun b => (w.heap.size < b ∧ b ≠ nx) ∧ b < nob) x3 q3)
     case first =>
      go_region_law (first | (refine step_nd1 rfl _ _ rfl (by simp [Act.eval, Act.put]) (HM.out.below bel).row (by simp [Act.eval, Act.put]) (heap_alloc_new _ _) (HKN.out.under bel) HPB.out (HM.out.base bel) ?_; intro v9 w11 hown ht9; have hm10 := HM.out.push bel hown ht9; have ho9 := HM.out.mid bel ht9; have htt := HM.out.pushT bel ht9 v9; have b5 : w11.cell? ⟨nob, 5, none⟩ = some (.slice none 0 0) := cell_in ho9 rfl; have br5 : w11.frozen? ⟨nob, 5, none⟩ = false := (by simp [World.frozen?, ho9]); have HM10 := Lib.hid hm10; have HT10 := Lib.hid htt; obtain ⟨A9, c9, hv9, _⟩ := hown.slice; subst hv9; clear hown ht9 hm10 ho9 htt))
      all_goals
       go_wp2_with fail
       go_meet
       exact ⟨A9, c9, HM10.out, (HT10.out.block _ (lt_of_block HXB.out) (fun e => e.elim (fun e => by cases e) (fun e => by have := HXL.out.1; omega))).trans HXB.out, HXN.out.turns HT10.out (fun b z _ e => e.elim (fun e => by cases e) (fun e => by have := z.2; omega)) (fun _ z => z)⟩
     case rest =>
      obtain ⟨A1, c1', hm9, hxb, hxn⟩ := hcut
      clear HM HXB HXN HK6 c0 c1 c2 c3 c4 c5 HKN HPB a0 a1 a2 a3 a4 a5
      (try clear n0 nr0 n1 nr1 n2 nr2 n3 nr3 n4 nr4 n5 nr5)
      (try clear o0 or0 o1 or1 o2 or2 o3 or3 o4 or4 o5 or5)
      (try clear m0 m1 m2 m3 m4 m5)
      rename World => wF
      have HM := Lib.hid hm9
      have HXB := Lib.hid hxb
      have hal9 := hm9.row.own
      have HN7 : Hid (IsNd wF (fun b => (dOut w nob) b ∧ Value.ownBlock (.slice A1 1 c1') ≠ some b) (NodT.node 7 x3.text 0 [] [] (x3.kids.drop 1)) (⟨none, 0, none, 0, p', c'⟩ : NS)) := Lib.hid ((HTL.out wF _ x3.text HTX.out hxn).more (fun b z _ => ⟨⟨z.1.1, by have := z.2; omega⟩, fun e => by have := (hm9.own b e).1; have := z.2; omega⟩))
      have HPB : Hid ([(k0, qk)].length ≤ 1000000) := Lib.hid (by show 1 ≤ 1000000; decide)
      obtain ⟨n0, n1, n2, n3, n4, n5, nr0, nr1, nr2, nr3, nr4, nr5⟩ := cf6 (hm9.res)
      obtain ⟨o0, o1, o2, o3, o4, o5, or0, or1, or2, or3, or4, or5⟩ := cf6 (hm9.out)
      obtain ⟨m0, m1, m2, m3, m4, m5⟩ := cc6 (hxb)
      obtain ⟨a0, a1, a2, a3, a4, a5⟩ := cc6 ((hm9.below ((Below.refl wF.heap.size wF).alloc (Nat.le_refl _) (.cells #[.int .i64 7, .string x3.text, .int .i64 0, .slice none 0 0, .slice none 0 0, .slice p' (n - 1) c'] 25))).out)
      clear hm9 hxb hxn hal9
      go_upto_region 17 with fail
      go_cut [] (fun wx => ∃ A c, Mw w wx (dOut w nob) nob pb v T s4 8 eB (.slice A 2 c) [(k0, qk), ((NodT.node 7 x3.text 0 [] [] (x3.kids.drop 1)), (⟨none, 0, none, 0, p', c'⟩ : NS))])
      case first =>
       go_region_law (first | (refine step_nd1 rfl _ _ rfl (by simp [Act.eval, Act.put]) (HM.out.below bel).row (by simp [Act.eval, Act.put]) ((heap_alloc_new _ _).trans (congrArg some HB7.out)) (HN7.out.under bel) HPB.out (HM.out.base bel) ?_; intro v9 w11 hown ht9; have hm10 := HM.out.push bel hown ht9; have ho9 := HM.out.mid bel ht9; have htt := HM.out.pushT bel ht9 v9; have b5 : w11.cell? ⟨nob, 5, none⟩ = some (.slice A1 1 c1') := cell_in ho9 rfl; have br5 : w11.frozen? ⟨nob, 5, none⟩ = false := (by simp [World.frozen?, ho9]); have HM10 := Lib.hid hm10; have HT10 := Lib.hid htt; obtain ⟨A9, c9, hv9, _⟩ := hown.slice; subst hv9; clear hown ht9 hm10 ho9 htt))
       all_goals
        go_wp2_with fail
        go_meet
        exact ⟨A9, c9, HM10.out⟩
      case rest =>
       obtain ⟨A2, c2, hm9⟩ := hcut
       clear HM HXB HN7 HPB a0 a1 a2 a3 a4 a5 hsl hk8 g0 hn0 hck
       (try clear n0 nr0 n1 nr1 n2 nr2 n3 nr3 n4 nr4 n5 nr5)
       (try clear o0 or0 o1 or1 o2 or2 o3 or3 o4 or4 o5 or5)
       (try clear m0 m1 m2 m3 m4 m5)
       rename World => wG
       have HM := Lib.hid hm9
       clear hm9
       go_upto_block 0 with fail
       go_cut [] (fun wx => ∃ (A : Option Addr) (n c : Nat) (ps : List NP) (sk : PSt), Mw w wx (dOut w nob) nob pb v T sk 8 eB (.slice A n c) ps ∧ exprS T (rcF T f) s = (.node 8 eB 0 [] [] (ps.map Prod.fst), sk))
       case first =>
        go_wp2_with fail
        go_loopg [] (T.length + 1) (fun g wr => ∃ (A : Option Addr) (n c : Nat) (ps : List NP) (sk : PSt), Mw w wr (dOut w nob) nob pb v T sk 8 eB (.slice A n c) ps ∧ cascL T (rcF T f) (T.length + 1) [x3.kids.headD nd0, .node 7 x3.text 0 [] [] (x3.kids.drop 1)] s4 = cascL T (rcF T f) g (ps.map Prod.fst) sk ∧ T.length < g + sk.i ∧ sk.i ≤ T.length ∧ ps.length ≤ 2 + sk.i ∧ s.i ≤ sk.i)
        case atStart => exact ⟨A2, 2, c2, [(k0, qk), ((NodT.node 7 x3.text 0 [] [] (x3.kids.drop 1)), (⟨none, 0, none, 0, p', c'⟩ : NS))], s4, HM.out, by rw [HKK.out]; rfl, by omega, HI4.out, Nat.le_add_right _ _, HL4.out⟩
        case round =>
         obtain ⟨A, n, c, ps, sk, hm9, hul, hg, hil, hpl, hmo⟩ := hrel
         clear HM
         (try clear n0 nr0 n1 nr1 n2 nr2 n3 nr3 n4 nr4 n5 nr5)
         (try clear o0 or0 o1 or1 o2 or2 o3 or3 o4 or4 o5 or5)
         have HM := Lib.hid hm9
         have HUL := Lib.hid hul
         have HG := Lib.hid hg
         have HIL := Lib.hid hil
         have HPC := Lib.hid hpl
         have HMO := Lib.hid hmo
         have HPB : Hid (ps.length ≤ 1000000) := Lib.hid (by have := HOK.out.len; omega)
         obtain ⟨t, ht⟩ : ∃ t, ahd T sk 0 = t := ⟨_, rfl⟩
         have HT := Lib.hid ht
         obtain ⟨b, hb⟩ : ∃ b, isT T sk 10 bSemi = b := ⟨_, rfl⟩
         have HB := Lib.hid hb
         obtain ⟨n0, n1, n2, n3, n4, n5, nr0, nr1, nr2, nr3, nr4, nr5⟩ := cf6 (hm9.res)
         obtain ⟨o0, o1, o2, o3, o4, o5, or0, or1, or2, or3, or4, or5⟩ := cf6 (hm9.out)
         clear hm9 hul hg hil hpl hmo ht hb
         cases b with
         | true =>
          have HLT := Lib.hid (isT_lt HB.out HOK.out (by decide))
          have HI1 : Hid ((takeT sk).i ≤ T.length) := Lib.hid HLT.out
          have HF5 : Hid (8 * (T.length - (takeT sk).i) + 3 < f) := Lib.hid (by have := HFU.out; have := HMO.out; have := HLT.out; show 8 * (T.length - (sk.i + 1)) + 3 < f; omega)
          obtain ⟨⟨y, s6⟩, hr0⟩ : ∃ r, (rcF T f).msg (takeT sk) = r := ⟨_, rfl⟩
          have HR0 := Lib.hid hr0
          have hgp := ((rcF_go HOK.out.at0 f).msg (takeT sk)).1
          rw [hr0] at hgp
          have HI6 : Hid (s6.i ≤ T.length ∧ sk.i + 1 ≤ s6.i) := Lib.hid ⟨hgp.top HI1.out, hgp.le⟩
          clear hr0 hgp
          have HBI := HB
          go_upto_region 20 with (first | (go_at_call 22; (with_reducible refine (is_at HM.out.pt.1.pt bel HOK.out 10 bSemi).mono ?_); rw [HB.out]; rintro e w4 ⟨rfl, hx⟩; have hm9 := HM.out.go bel hx; clear HM; have HM := Lib.hid hm9; (try clear n0 nr0 n1 nr1 n2 nr2 n3 nr3 n4 nr4 n5 nr5); (try clear o0 or0 o1 or1 o2 or2 o3 or3 o4 or4 o5 or5); obtain ⟨n0, n1, n2, n3, n4, n5, nr0, nr1, nr2, nr3, nr4, nr5⟩ := cf6 (hm9.res); obtain ⟨o0, o1, o2, o3, o4, o5, or0, or1, or2, or3, or4, or5⟩ := cf6 (hm9.out); clear hm9 hx) | (go_at_call 23; (with_reducible refine (take_any (HM.out.pt.1.below bel) HOK.out HIL.out HT.out).mono ?_); rintro e w5 ⟨rfl, hx⟩; have hm9 := HM.out.go bel hx; clear HM; have HM := Lib.hid hm9; (try clear n0 nr0 n1 nr1 n2 nr2 n3 nr3 n4 nr4 n5 nr5); (try clear o0 or0 o1 or1 o2 or2 o3 or3 o4 or4 o5 or5); obtain ⟨n0, n1, n2, n3, n4, n5, nr0, nr1, nr2, nr3, nr4, nr5⟩ := cf6 (hm9.res); obtain ⟨o0, o1, o2, o3, o4, o5, or0, or1, or2, or3, or4, or5⟩ := cf6 (hm9.out); clear hm9 hx))
          have HFR := Lib.hid HM.out.fresh
          go_region_law (first | (go_simp; go_at_call 42; (with_reducible refine (hp.msg (HM.out.pt.1.below bel) HI1.out HF5.out).mono ?_); rw [HR0.out]; rintro e w8 ⟨qy, rfl, _, hx, hn8⟩; unfold ndV; have hm9 := HM.out.go bel hx; have HM8 := Lib.hid hm9; have hb9 : Below w8.heap.size w8 (w8.alloc (.cells #[.int .i64 y.kind, .string y.text, .int .i64 y.num, .slice qy.pn y.names.length qy.cn, .slice qy.pt y.temps.length qy.ct, .slice qy.pk y.kids.length qy.ck] 25)) := (Below.refl _ _).alloc (Nat.le_refl _) _; have ha9 := hm9.below hb9; have HRW := Lib.hid ha9.row; obtain ⟨o0, o1, o2, o3, o4, o5, or0, or1, or2, or3, or4, or5⟩ := cf6 (hm9.out); obtain ⟨a0, a1, a2, a3, a4, a5, ar0, ar1, ar2, ar3, ar4, ar5⟩ := cf6 (ha9.out); have HN9 := Lib.hid ((hn8.under hb9).more (D' := fun b => (dOut w nob) b ∧ Value.ownBlock (.slice A n c) ≠ some b) (fun b z _ => HFR.out b (Nat.le_trans (show Below w5.heap.size w5 _ from bel).size z))); have HBS9 := Lib.hid (hm9.base hb9); clear hx hn8 hm9 hb9 ha9) | (refine step_nd1 rfl _ _ rfl (by simp [Act.eval, Act.put]) HRW.out (by simp [Act.eval, Act.put]) (heap_alloc_new w8 _) HN9.out HPB.out HBS9.out ?_; intro v9 w11 hown ht9; have hm10 := HM8.out.push ((Below.refl _ _).alloc (Nat.le_refl _) _) hown ht9; have ho9 := HM8.out.mid ((Below.refl _ _).alloc (Nat.le_refl _) _) ht9; have b5 : w11.cell? ⟨nob, 5, none⟩ = some (.slice A n c) := cell_in ho9 rfl; have br5 : w11.frozen? ⟨nob, 5, none⟩ = false := (by simp [World.frozen?, ho9]); have HM10 := Lib.hid hm10; obtain ⟨A9, c9, hv9, _⟩ := hown.slice; subst hv9; clear hown ht9 hm10 ho9))
          all_goals
           go_wp2_with fail
           go_roundg (gk - 1)
           case measure => have := HG.out; have := HLT.out; omega
           case rel =>
            have hm9 := HM10.out
            have hl9 : (ps ++ [(y, qy)]).length = ps.length + 1 := by rw [List.length_append]; rfl
            rw [hl9] at hm9
            have hul : cascL T (rcF T f) (T.length + 1) [x3.kids.headD nd0, .node 7 x3.text 0 [] [] (x3.kids.drop 1)] s4 = cascL T (rcF T f) (gk - 1) ((ps ++ [(y, qy)]).map Prod.fst) s6 := by
             have h9 : gk = (gk - 1) + 1 := by have := HG.out; have := HLT.out; omega
             rw [HUL.out, h9, cascL, if_pos HBI.out, HR0.out, Nat.add_sub_cancel, List.map_append]
             rfl
            have hg2 : T.length < (gk - 1) + s6.i := fuel_step HG.out HLT.out HI6.out.2
            have hp2 : (ps ++ [(y, qy)]).length ≤ 2 + s6.i := by rw [hl9]; exact casc_step HPC.out HI6.out.2
            have hm2 : s.i ≤ s6.i := Nat.le_trans HMO.out (Nat.le_trans (Nat.le_succ _) HI6.out.2)
            exact ⟨A9, ps.length + 1, c9, ps ++ [(y, qy)], s6, hm9, hul, hg2, HI6.out.1, hp2, hm2⟩
         | false =>
          have HE : Hid (exprS T (rcF T f) s = (.node 8 eB 0 [] [] (ps.map Prod.fst), sk)) := Lib.hid (by
           have hq : cascL T (rcF T f) (T.length + 1) [x3.kids.headD nd0, .node 7 x3.text 0 [] [] (x3.kids.drop 1)] s4 = (ps.map Prod.fst, sk) := by
            rw [HUL.out]
            cases gk with
            | zero => rfl
            | succ g => rw [cascL, if_neg (by rw [HB.out]; decide)]
           rw [HE0.out, if_pos HBS.out, if_neg (fun z => z HK7.out), hq])
          go_wp2_with (first | (go_at_call 22; (with_reducible refine (is_at HM.out.pt.1.pt bel HOK.out 10 bSemi).mono ?_); rw [HB.out]; rintro e w4 ⟨rfl, hx⟩; have hm9 := HM.out.go bel hx; clear HM; have HM := Lib.hid hm9; (try clear n0 nr0 n1 nr1 n2 nr2 n3 nr3 n4 nr4 n5 nr5); (try clear o0 or0 o1 or1 o2 or2 o3 or3 o4 or4 o5 or5); obtain ⟨n0, n1, n2, n3, n4, n5, nr0, nr1, nr2, nr3, nr4, nr5⟩ := cf6 (hm9.res); obtain ⟨o0, o1, o2, o3, o4, o5, or0, or1, or2, or3, or4, or5⟩ := cf6 (hm9.out); clear hm9 hx))
          go_meet
          exact ⟨A, n, c, ps, sk, HM.out, HE.out⟩
       case rest =>
        obtain ⟨A, n, c, ps, sk, hm9, he9⟩ := hcut
        clear HM
        (try clear n0 nr0 n1 nr1 n2 nr2 n3 nr3 n4 nr4 n5 nr5)
        (try clear o0 or0 o1 or1 o2 or2 o3 or3 o4 or4 o5 or5)
        have HM := Lib.hid hm9
        have HE := Lib.hid he9
        rename World => wK
        obtain ⟨n0, n1, n2, n3, n4, n5, nr0, nr1, nr2, nr3, nr4, nr5⟩ := cf6 (hm9.res)
        obtain ⟨o0, o1, o2, o3, o4, o5, or0, or1, or2, or3, or4, or5⟩ := cf6 (hm9.out)
        clear hm9 he9
        repeat go_step
        obtain ⟨W9, hW9⟩ : ∃ W9, W9 = ((((((wK.setCell ⟨w.heap.size, 0, none⟩ (.int .i64 8)).setCell ⟨w.heap.size, 1, none⟩ (.string eB)).setCell ⟨w.heap.size, 2, none⟩ (.int .i64 0)).setCell ⟨w.heap.size, 3, none⟩ (.slice none 0 0)).setCell ⟨w.heap.size, 4, none⟩ (.slice none 0 0)).setCell ⟨w.heap.size, 5, none⟩ (.slice A n c)) := ⟨_, rfl⟩
        have h9 : W9.heap[w.heap.size]? = some (.cells #[.int .i64 8, .string eB, .int .i64 0, .slice none 0 0, .slice none 0 0, .slice A n c] 25 (0, 0)) := by rw [hW9]; exact agg_set6 HM.out.res
        obtain ⟨z0, z1, z2, z3, z4, z5⟩ := cc6 h9
        have HT9 : Hid (Turns (fun k => k = w.heap.size) wK W9) := Lib.hid (by rw [hW9]; exact six_turns (T := fun k => k = w.heap.size) (Turns.refl _ _) (w.heap.size) rfl)
        rw [← hW9]
        clear hW9 h9
        refine bodyPost_ret (v := .agg #[.int .i64 8, .string eB, .int .i64 0, .slice none 0 0, .slice none 0 0, .slice A n c]) (by simp [results, Try.results26, go_sem, z0, z1, z2, z3, z4, z5]) rfl ?_
        rw [HPO.out, HE.out]
        refine ⟨⟨none, 0, none, 0, A, c⟩, ?_, HM.out.fin HT9.out, (HM.out.node HT9.out ⟨by decide, by decide⟩ ⟨by decide, by decide⟩ (by decide)).more (fun b z _ => .inr z)⟩
        show Ending.returned (.agg #[.int .i64 8, .string eB, .int .i64 0, .slice none 0 0, .slice none 0 0, .slice A n c]) = Ending.returned (.agg #[.int .i64 8, .string eB, .int .i64 0, .slice none 0 0, .slice none 0 0, .slice A (ps.map Prod.fst).length c])
        rw [List.length_map, HM.out.len.1]
    ·have hk8 : (x3.kind != 7) = true := by simpa using hk7
     have HE : Hid (exprS T (rcF T f) s = (x3, failT s4 t4 13)) := Lib.hid (by rw [HE0.out, if_pos HBS.out, if_pos hk7, HT4.out])
     go_wp2_with (first | (go_at_call 22; (with_reducible refine (is_at HM.out.pt.1.pt bel HOK.out 10 bSemi).mono ?_); rw [HBS.out]; rintro e wD ⟨rfl, hx⟩; have hm9 := HM.out.go bel hx; clear HM; have HM := Lib.hid hm9; (try clear n0 nr0 n1 nr1 n2 nr2 n3 nr3 n4 nr4 n5 nr5); (try clear m0 mr0 m1 mr1 m2 mr2 m3 mr3 m4 mr4 m5 mr5); obtain ⟨n0, n1, n2, n3, n4, n5, nr0, nr1, nr2, nr3, nr4, nr5⟩ := cf6 (hm9.res); obtain ⟨m0, m1, m2, m3, m4, m5, mr0, mr1, mr2, mr3, mr4, mr5⟩ := cf6 (hm9.box); clear hm9 hx) | (go_at_call 27; (with_reducible refine (ahead0_at HM.out.pt.1.pt bel HOK.out HT4.out).mono ?_); rintro e wE ⟨rfl, hx⟩; have hm9 := HM.out.go bel hx; clear HM; have HM := Lib.hid hm9; (try clear n0 nr0 n1 nr1 n2 nr2 n3 nr3 n4 nr4 n5 nr5); (try clear m0 mr0 m1 mr1 m2 mr2 m3 mr3 m4 mr4 m5 mr5); obtain ⟨n0, n1, n2, n3, n4, n5, nr0, nr1, nr2, nr3, nr4, nr5⟩ := cf6 (hm9.res); obtain ⟨m0, m1, m2, m3, m4, m5, mr0, mr1, mr2, mr3, mr4, mr5⟩ := cf6 (hm9.box); clear hm9 hx) | (go_at_call 25; (with_reducible refine (pfail_any (HM.out.pt.1.below bel) t4 13).mono ?_); rintro e wF ⟨rfl, hx⟩; have hm9 := HM.out.go bel hx; clear HM; have HM := Lib.hid hm9; (try clear n0 nr0 n1 nr1 n2 nr2 n3 nr3 n4 nr4 n5 nr5); (try clear m0 mr0 m1 mr1 m2 mr2 m3 mr3 m4 mr4 m5 mr5); obtain ⟨n0, n1, n2, n3, n4, n5, nr0, nr1, nr2, nr3, nr4, nr5⟩ := cf6 (hm9.res); obtain ⟨m0, m1, m2, m3, m4, m5, mr0, mr1, mr2, mr3, mr4, mr5⟩ := cf6 (hm9.box); clear hm9 hx))
     obtain ⟨W9, hW9⟩ : ∃ W9, W9 = ((((((wF.setCell ⟨w.heap.size, 0, none⟩ (.int .i64 x3.kind)).setCell ⟨w.heap.size, 1, none⟩ (.string x3.text)).setCell ⟨w.heap.size, 2, none⟩ (.int .i64 x3.num)).setCell ⟨w.heap.size, 3, none⟩ (.slice q3.pn x3.names.length q3.cn)).setCell ⟨w.heap.size, 4, none⟩ (.slice q3.pt x3.temps.length q3.ct)).setCell ⟨w.heap.size, 5, none⟩ (.slice q3.pk x3.kids.length q3.ck)) := ⟨_, rfl⟩
     have h9 : W9.heap[w.heap.size]? = some (.cells #[.int .i64 x3.kind, .string x3.text, .int .i64 x3.num, .slice q3.pn x3.names.length q3.cn, .slice q3.pt x3.temps.length q3.ct, .slice q3.pk x3.kids.length q3.ck] 25 (0, 0)) := by rw [hW9]; exact agg_set6 HM.out.res
     obtain ⟨z0, z1, z2, z3, z4, z5⟩ := cc6 h9
     have HT9 : Hid (Turns (fun k => k = w.heap.size) wF W9) := Lib.hid (by rw [hW9]; exact six_turns (T := fun k => k = w.heap.size) (Turns.refl _ _) (w.heap.size) rfl)
     rw [← hW9]
     clear hW9 h9
     refine bodyPost_ret (v := .agg #[.int .i64 x3.kind, .string x3.text, .int .i64 x3.num, .slice q3.pn x3.names.length q3.cn, .slice q3.pt x3.temps.length q3.ct, .slice q3.pk x3.kids.length q3.ck]) (by simp [results, Try.results26, go_sem, z0, z1, z2, z3, z4, z5]) rfl ?_
     rw [HPO.out, HE.out]
     have hfn := HM.out.fin HT9.out
     exact ⟨q3, rfl, hfn.1, hfn.2⟩
end Go.Proofs.Ytnojndgmgkgnpaa

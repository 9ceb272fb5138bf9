/- Chapter 10: the reference's parser: messages. -/
import Derived.Test.YtnojndgmgkgnpaaPJ0
namespace Go.Proofs.Ytnojndgmgkgnpaa
open Go.ChangeShapes Go.WideShapes Go.ChangeAt Go.RowKit Go.Deep Go.Joins Go.Maps
set_option linter.unusedVariables false
set_option linter.unusedSimpArgs false
theorem fuel_step {n g i j : Nat} (h : n < g + i) (h1 : i < n) (h2 : i + 1 ≤ j) : n < (g - 1) + j := by omega
theorem text_step {a b : ByteArray} {i j : Nat} (h : a.size ≤ 100000 * i) (h1 : b.size ≤ 100000) (h2 : i + 1 ≤ j) : (a ++ b).size ≤ 100000 * j := by
 have h4 : (a ++ b).size = a.size + b.size := ByteArray.size_append
 omega
set_option maxRecDepth 100000 in
set_option maxHeartbeats 16000000 in
theorem msg_go {f : Nat} {w : World} {pb : Nat} {v : Value} {T : Tks} {s : PSt} (hp : PSpec T f) (h : PW w pb v T s) (hok : TokOk T) (hi : s.i ≤ T.length) (hfu : 8 * (T.length - s.i) + 3 < f + 1) : Calls Try.prog 42 #[.pointer (some ⟨pb, 0, none⟩)] w (MsgP pb v T (msgS T (rcF T f) s) w) := by
 have HOK := Lib.hid hok
 have HI := Lib.hid hi
 have HFU : Hid (8 * (T.length - s.i) + 3 < f + 1) := Lib.hid hfu
 have H0 : Hid (Mw w ((w.alloc (.cells #[.int .i64 0, .string eB, .int .i64 0, .slice none 0 0, .slice none 0 0, .slice none 0 0] 25)).alloc (.cells #[.int .i64 7, .string eB, .int .i64 0, .slice none 0 0, .slice none 0 0, .slice none 0 0] 25)) (dOut w (w.heap.size + 1)) (w.heap.size + 1) pb v T s 7 eB (.slice none 0 0) []) := Lib.hid (by
  have hb : Below w.heap.size w ((w.alloc (.cells #[.int .i64 0, .string eB, .int .i64 0, .slice none 0 0, .slice none 0 0, .slice none 0 0] 25)).alloc (.cells #[.int .i64 7, .string eB, .int .i64 0, .slice none 0 0, .slice none 0 0, .slice none 0 0] 25)) := bel
  have h1 := heap_alloc_new w (.cells #[.int .i64 0, .string eB, .int .i64 0, .slice none 0 0, .slice none 0 0, .slice none 0 0] 25)
  have h2 := heap_alloc_new (w.alloc (.cells #[.int .i64 0, .string eB, .int .i64 0, .slice none 0 0, .slice none 0 0, .slice none 0 0] 25)) (.cells #[.int .i64 7, .string eB, .int .i64 0, .slice none 0 0, .slice none 0 0, .slice none 0 0] 25)
  rw [World.size_alloc] at h2
  exact ⟨⟨h.below hb, Turns.of_below hb⟩, Nat.lt_succ_self _, lt_of_block h.box, fun k e => (World.ownsRow.lt h.row k e).2, ((Below.refl _ _).alloc (Nat.le_refl _) _ |>.block _ (lt_of_block h1)).trans h1, h2, NdRow.nil _ _ _, fun _ z => z⟩)
 obtain ⟨t, ht⟩ : ∃ t, ahd T s 0 = t := ⟨_, rfl⟩
 have HT := Lib.hid ht
 obtain ⟨b1, hb1⟩ : ∃ b, isT T s 1 eB = b := ⟨_, rfl⟩
 have HB1 := Lib.hid hb1
 obtain ⟨b3, hb3⟩ : ∃ b, isT T s 3 eB = b := ⟨_, rfl⟩
 have HB3 := Lib.hid hb3
 obtain ⟨b2, hb2⟩ : ∃ b, isT T s 2 eB = b := ⟨_, rfl⟩
 have HB2 := Lib.hid hb2
 have hf1 := tfld1
 clear h hok hi hfu ht hb1 hb2 hb3
 go_enter Try.func42, Try.ntmps42
 go_upto_region 2 with fail
 have hm9 := H0.out
 obtain ⟨w1, hw1⟩ : ∃ w1, ((w.alloc (.cells #[.int .i64 0, .string eB, .int .i64 0, .slice none 0 0, .slice none 0 0, .slice none 0 0] 25)).alloc (.cells #[.int .i64 7, .string eB, .int .i64 0, .slice none 0 0, .slice none 0 0, .slice none 0 0] 25)) = w1 := ⟨_, rfl⟩
 rw [hw1] at hm9 ⊢
 have HM := Lib.hid hm9
 clear hw1 H0 hm9
 cases b1 with
 | true =>
  have HE : Hid (msgS T (rcF T f) s = (.node 7 (tx t) 0 [] [] [], takeT s)) := Lib.hid (by unfold msgS; rw [if_pos HB1.out, HT.out])
  go_upto_region 4 with (first | (go_at_call 22; (with_reducible refine (is_at HM.out.pt.1.pt bel HOK.out 1 eB).mono ?_); rw [HB1.out]; rintro e w4 ⟨rfl, hx⟩; have hm9 := HM.out.go bel hx; clear HM; have HM := Lib.hid hm9; (try clear n0 nr0 n1 nr1 n2 nr2 n3 nr3 n4 nr4 n5 nr5); (try clear o0 or0 o1 or1 o2 or2 o3 or3 o4 or4 o5 or5); obtain ⟨n0, n1, n2, n3, n4, n5, nr0, nr1, nr2, nr3, nr4, nr5⟩ := cf6 (hm9.res); obtain ⟨o0, o1, o2, o3, o4, o5, or0, or1, or2, or3, or4, or5⟩ := cf6 (hm9.out); clear hm9 hx) | (go_at_call 23; (with_reducible refine (take_any (HM.out.pt.1.below bel) HOK.out HI.out HT.out).mono ?_); rintro e w5 ⟨rfl, hx⟩; have hm9 := HM.out.go bel hx; clear HM; have HM := Lib.hid hm9; (try clear n0 nr0 n1 nr1 n2 nr2 n3 nr3 n4 nr4 n5 nr5); (try clear o0 or0 o1 or1 o2 or2 o3 or3 o4 or4 o5 or5); obtain ⟨n0, n1, n2, n3, n4, n5, nr0, nr1, nr2, nr3, nr4, nr5⟩ := cf6 (hm9.res); obtain ⟨o0, o1, o2, o3, o4, o5, or0, or1, or2, or3, or4, or5⟩ := cf6 (hm9.out); clear hm9 hx))
  have hm9 := HM.out.text (tx t)
  obtain ⟨wt, hw9⟩ : ∃ wt, w5.setCell ⟨w.heap.size + 1, 1, none⟩ (.string (tx t)) = wt := ⟨_, rfl⟩
  rw [hw9] at hm9 ⊢
  clear HM hw9
  have HM := Lib.hid hm9
  (try clear n0 nr0 n1 nr1 n2 nr2 n3 nr3 n4 nr4 n5 nr5)
  (try clear o0 or0 o1 or1 o2 or2 o3 or3 o4 or4 o5 or5)
  obtain ⟨n0, n1, n2, n3, n4, n5, nr0, nr1, nr2, nr3, nr4, nr5⟩ := cf6 (hm9.res)
  obtain ⟨o0, o1, o2, o3, o4, o5, or0, or1, or2, or3, or4, or5⟩ := cf6 (hm9.out)
  clear hm9
  go_wp2_with fail
  obtain ⟨W9, hW9⟩ : ∃ W9, W9 = ((((((wt.setCell ⟨w.heap.size, 0, none⟩ (.int .i64 7)).setCell ⟨w.heap.size, 1, none⟩ (.string (tx t))).setCell ⟨w.heap.size, 2, none⟩ (.int .i64 0)).setCell ⟨w.heap.size, 3, none⟩ (.slice none 0 0)).setCell ⟨w.heap.size, 4, none⟩ (.slice none 0 0)).setCell ⟨w.heap.size, 5, none⟩ (.slice none 0 0)) := ⟨_, rfl⟩
  have h9 : W9.heap[w.heap.size]? = some (.cells #[.int .i64 7, .string (tx t), .int .i64 0, .slice none 0 0, .slice none 0 0, .slice none 0 0] 25 (0, 0)) := by rw [hW9]; exact agg_set6 HM.out.res
  obtain ⟨z0, z1, z2, z3, z4, z5⟩ := cc6 h9
  have HT9 : Hid (Turns (fun k => k = w.heap.size) wt W9) := Lib.hid (by rw [hW9]; exact six_turns (T := fun k => k = w.heap.size) (Turns.refl _ _) (w.heap.size) rfl)
  rw [← hW9]
  clear hW9 h9
  refine bodyPost_ret (v := .agg #[.int .i64 7, .string (tx t), .int .i64 0, .slice none 0 0, .slice none 0 0, .slice none 0 0]) (by simp [results, Try.results42, go_sem, z0, z1, z2, z3, z4, z5]) rfl ?_
  rw [HE.out]
  refine ⟨⟨none, 0, none, 0, none, 0⟩, rfl, fun _ => rfl, HM.out.fin HT9.out, ?_⟩
  exact IsNd.leaf _ _ ⟨by decide, by decide⟩ ⟨by decide, by decide⟩ (tx_size HOK.out HT.out)
 | false =>
  cases b3 with
  | true =>
   have HLT := Lib.hid (isT_lt HB3.out HOK.out (by decide))
   have HI1 : Hid ((takeT s).i ≤ T.length) := Lib.hid HLT.out
   have HF5 : Hid (8 * (T.length - (takeT s).i) + 1 < f) := Lib.hid (by have := HFU.out; have := HLT.out; show 8 * (T.length - (s.i + 1)) + 1 < f; omega)
   obtain ⟨⟨y, s6⟩, hr0⟩ : ∃ r, (rcF T f).prim (takeT s) = r := ⟨_, rfl⟩
   have HR0 := Lib.hid hr0
   have hgp := (rcF_go HOK.out.at0 f).prim (takeT s)
   rw [hr0] at hgp
   have HI6 : Hid (s6.i ≤ T.length) := Lib.hid (hgp.go.top HI1.out)
   obtain ⟨⟨y2, s8⟩, hr1⟩ : ∃ r, unT T y s6 = r := ⟨_, rfl⟩
   have HR1 := Lib.hid hr1
   have HE : Hid (msgS T (rcF T f) s = (.node 7 (tx t) 0 [] [] [y2], s8)) := Lib.hid (by
    unfold msgS
    rw [if_neg (by rw [HB1.out]; decide), if_pos HB3.out, HT.out]
    show (NodT.node 7 (tx t) 0 [] [] [(unT T ((rcF T f).prim (takeT s)).1 ((rcF T f).prim (takeT s)).2).1], (unT T ((rcF T f).prim (takeT s)).1 ((rcF T f).prim (takeT s)).2).2) = _
    rw [hr0]
    show (NodT.node 7 (tx t) 0 [] [] [(unT T y s6).1], (unT T y s6).2) = _
    rw [hr1])
   clear hr0 hgp hr1
   go_upto_region 7 with (first | (go_at_call 22; (with_reducible refine (is_at HM.out.pt.1.pt bel HOK.out 1 eB).mono ?_); rw [HB1.out]; rintro e w4 ⟨rfl, hx⟩; have hm9 := HM.out.go bel hx; clear HM; have HM := Lib.hid hm9; (try clear n0 nr0 n1 nr1 n2 nr2 n3 nr3 n4 nr4 n5 nr5); (try clear o0 or0 o1 or1 o2 or2 o3 or3 o4 or4 o5 or5); obtain ⟨n0, n1, n2, n3, n4, n5, nr0, nr1, nr2, nr3, nr4, nr5⟩ := cf6 (hm9.res); obtain ⟨o0, o1, o2, o3, o4, o5, or0, or1, or2, or3, or4, or5⟩ := cf6 (hm9.out); clear hm9 hx) | (go_at_call 22; (with_reducible refine (is_at HM.out.pt.1.pt bel HOK.out 3 eB).mono ?_); rw [HB3.out]; rintro e w4 ⟨rfl, hx⟩; have hm9 := HM.out.go bel hx; clear HM; have HM := Lib.hid hm9; (try clear n0 nr0 n1 nr1 n2 nr2 n3 nr3 n4 nr4 n5 nr5); (try clear o0 or0 o1 or1 o2 or2 o3 or3 o4 or4 o5 or5); obtain ⟨n0, n1, n2, n3, n4, n5, nr0, nr1, nr2, nr3, nr4, nr5⟩ := cf6 (hm9.res); obtain ⟨o0, o1, o2, o3, o4, o5, or0, or1, or2, or3, or4, or5⟩ := cf6 (hm9.out); clear hm9 hx) | (go_at_call 23; (with_reducible refine (take_any (HM.out.pt.1.below bel) HOK.out HI.out HT.out).mono ?_); rintro e w5 ⟨rfl, hx⟩; have hm9 := HM.out.go bel hx; clear HM; have HM := Lib.hid hm9; (try clear n0 nr0 n1 nr1 n2 nr2 n3 nr3 n4 nr4 n5 nr5); (try clear o0 or0 o1 or1 o2 or2 o3 or3 o4 or4 o5 or5); obtain ⟨n0, n1, n2, n3, n4, n5, nr0, nr1, nr2, nr3, nr4, nr5⟩ := cf6 (hm9.res); obtain ⟨o0, o1, o2, o3, o4, o5, or0, or1, or2, or3, or4, or5⟩ := cf6 (hm9.out); clear hm9 hx))
   have hm9 := HM.out.text (tx t)
   obtain ⟨wt, hw9⟩ : ∃ wt, w5.setCell ⟨w.heap.size + 1, 1, none⟩ (.string (tx t)) = wt := ⟨_, rfl⟩
   rw [hw9] at hm9 ⊢
   clear HM hw9
   have HM := Lib.hid hm9
   (try clear n0 nr0 n1 nr1 n2 nr2 n3 nr3 n4 nr4 n5 nr5)
   (try clear o0 or0 o1 or1 o2 or2 o3 or3 o4 or4 o5 or5)
   obtain ⟨n0, n1, n2, n3, n4, n5, nr0, nr1, nr2, nr3, nr4, nr5⟩ := cf6 (hm9.res)
   obtain ⟨o0, o1, o2, o3, o4, o5, or0, or1, or2, or3, or4, or5⟩ := cf6 (hm9.out)
   have HFR := Lib.hid hm9.fresh
   clear hm9
   go_upto_region 8 with (first | (go_at_call 38; (with_reducible refine (hp.prim (HM.out.pt.1.below bel) HI1.out HF5.out).mono ?_); rw [HR0.out]; rintro e w6 ⟨qy, rfl, hx, hny⟩; unfold ndV; have HNY := Lib.hid (hny.more (D' := fun b => wt.heap.size ≤ b) (fun b z _ => z.elim False.elim (fun z => Nat.le_trans (show Below wt.heap.size wt _ from bel).size z))); have HNW := Lib.hid (Nat.le_trans (show Below wt.heap.size wt _ from bel).size hx.2.size); clear hny; have hm9 := HM.out.go bel hx; clear HM; have HM := Lib.hid hm9; (try clear n0 nr0 n1 nr1 n2 nr2 n3 nr3 n4 nr4 n5 nr5); (try clear o0 or0 o1 or1 o2 or2 o3 or3 o4 or4 o5 or5); obtain ⟨n0, n1, n2, n3, n4, n5, nr0, nr1, nr2, nr3, nr4, nr5⟩ := cf6 (hm9.res); obtain ⟨o0, o1, o2, o3, o4, o5, or0, or1, or2, or3, or4, or5⟩ := cf6 (hm9.out); clear hm9 hx))
   have hal := (Below.refl w6.heap.size w6).alloc (Nat.le_refl _) (.cells #[.int .i64 y.kind, .string y.text, .int .i64 y.num, .slice qy.pn y.names.length qy.cn, .slice qy.pt y.temps.length qy.ct, .slice qy.pk y.kids.length qy.ck] 25)
   have h7 := heap_alloc_new w6 (.cells #[.int .i64 y.kind, .string y.text, .int .i64 y.num, .slice qy.pn y.names.length qy.cn, .slice qy.pt y.temps.length qy.ct, .slice qy.pk y.kids.length qy.ck] 25)
   have hm9 := (HM.out.apart w6.heap.size (Nat.le_refl _)).below hal
   have hny := (HNY.out.lt.under hal).more (D' := (fun b => wt.heap.size ≤ b ∧ b ≠ w6.heap.size)) (fun b z _ => ⟨z.1, by have := z.2; omega⟩)
   have hlw : w.heap.size < wt.heap.size := (HFR.out _ (Nat.le_refl _)).1.1
   have hl7 : w6.heap.size < (w6.alloc (.cells #[.int .i64 y.kind, .string y.text, .int .i64 y.num, .slice qy.pn y.names.length qy.cn, .slice qy.pt y.temps.length qy.ct, .slice qy.pk y.kids.length qy.ck] 25)).heap.size := by rw [World.size_alloc]; exact Nat.lt_succ_self _
   obtain ⟨w7, hw9⟩ : ∃ wt, w6.alloc (.cells #[.int .i64 y.kind, .string y.text, .int .i64 y.num, .slice qy.pn y.names.length qy.cn, .slice qy.pt y.temps.length qy.ct, .slice qy.pk y.kids.length qy.ck] 25) = wt := ⟨_, rfl⟩
   rw [hw9] at hm9 h7 hny hl7 ⊢
   clear HM HNY hal hw9
   have HM := Lib.hid hm9
   (try clear n0 nr0 n1 nr1 n2 nr2 n3 nr3 n4 nr4 n5 nr5)
   (try clear o0 or0 o1 or1 o2 or2 o3 or3 o4 or4 o5 or5)
   obtain ⟨n0, n1, n2, n3, n4, n5, nr0, nr1, nr2, nr3, nr4, nr5⟩ := cf6 (hm9.res)
   obtain ⟨o0, o1, o2, o3, o4, o5, or0, or1, or2, or3, or4, or5⟩ := cf6 (hm9.out)
   have HNY := Lib.hid hny
   have HB6 := Lib.hid h7
   have HLW : Hid (w.heap.size < wt.heap.size ∧ pb < w.heap.size) := Lib.hid ⟨hlw, hm9.pl⟩
   have HL7 := Lib.hid hl7
   obtain ⟨m0, m1, m2, m3, m4, m5, mr0, mr1, mr2, mr3, mr4, mr5⟩ := cf6 (h7)
   clear hm9 h7 hny hlw hl7
   have HLW7 : Hid (wt.heap.size ≤ w7.heap.size) := Lib.hid (by have := HNW.out; have := HL7.out; omega)
   have HPB : Hid (([] : List NP).length ≤ 1000000) := Lib.hid (by decide)
   go_cut [] (fun wx => ∃ A9 c9 q2, Mw w wx (fun b => dOut w (w.heap.size + 1) b ∧ b ≠ w6.heap.size) (w.heap.size + 1) pb v T s8 7 (tx t) (.slice A9 1 c9) [(y2, q2)])
   case first =>
    go_region_law (first | (go_simp; go_at_call 39; (with_reducible refine (un_at (HM.out.pt.1.below bel) HOK.out HI6.out (D := (fun b => wt.heap.size ≤ b ∧ b ≠ w6.heap.size)) (fun b z e => by have := HLW.out; have := z.1; omega) (HNY.out.under bel)).mono ?_); rw [HR1.out]; rintro e w8 ⟨q2, rfl, hx, hn8⟩; unfold ndV; have hm9 := HM.out.go bel hx; have HM8 := Lib.hid hm9; have hb9 : Below w8.heap.size w8 (w8.alloc (.cells #[.int .i64 y2.kind, .string y2.text, .int .i64 y2.num, .slice q2.pn y2.names.length q2.cn, .slice q2.pt y2.temps.length q2.ct, .slice q2.pk y2.kids.length q2.ck] 25)) := (Below.refl _ _).alloc (Nat.le_refl _) _; have ha9 := hm9.below hb9; have HRW := Lib.hid ha9.row; obtain ⟨o0, o1, o2, o3, o4, o5, or0, or1, or2, or3, or4, or5⟩ := cf6 (hm9.out); obtain ⟨a0, a1, a2, a3, a4, a5, ar0, ar1, ar2, ar3, ar4, ar5⟩ := cf6 (ha9.out); have HN9 := Lib.hid ((hn8.under hb9).more (D' := fun b => (dOut w (w.heap.size + 1) b ∧ b ≠ w6.heap.size) ∧ Value.ownBlock (.slice none 0 0) ≠ some b) (fun b z _ => by have h8 : w6.heap.size < w7.heap.size := HL7.out; have h7 : (wt.heap.size ≤ b ∧ b ≠ w6.heap.size) := z.elim id (fun z => by have h6 := Nat.le_trans (show Below w7.heap.size w7 _ from bel).size z; have := HLW7.out; exact ⟨by omega, by omega⟩); exact ⟨⟨(HFR.out b h7.1).1, h7.2⟩, (HFR.out b h7.1).2⟩)); have HBS : Hid (w.heap.size + 1 + 1 ≤ (w8.alloc (.cells #[.int .i64 y2.kind, .string y2.text, .int .i64 y2.num, .slice q2.pn y2.names.length q2.cn, .slice q2.pt y2.temps.length q2.ct, .slice q2.pk y2.kids.length q2.ck] 25)).heap.size) := Lib.hid (by have h9 := lt_of_block ha9.out; omega); clear hx hn8 hm9 hb9 ha9) | (refine step_nd1 rfl _ _ rfl (by simp [Act.eval, Act.put]) HRW.out (by simp [Act.eval, Act.put]) (heap_alloc_new w8 _) HN9.out HPB.out HBS.out ?_; intro v9 w11 hown ht9; have HR9 := Lib.hid hown; have hm10 := HM8.out.push ((Below.refl _ _).alloc (Nat.le_refl _) _) hown ht9; have HT9A := Lib.hid ht9; have HM10 := Lib.hid hm10; obtain ⟨A9, c9, hv9, _⟩ := hown.slice; subst hv9; have ho9 := HM8.out.mid ((Below.refl _ _).alloc (Nat.le_refl _) _) ht9; have b5 : w11.cell? ⟨w.heap.size + 1, 5, none⟩ = some (.slice none 0 0) := cell_in ho9 rfl; have br5 : w11.frozen? ⟨w.heap.size + 1, 5, none⟩ = false := (by simp [World.frozen?, ho9]); clear hown ht9 hm10 ho9))
    all_goals
     go_wp2_with fail
     go_meet
     exact ⟨A9, c9, q2, HM10.out⟩
   case rest =>
    obtain ⟨A9, c9, q2, hm9⟩ := hcut
    clear HM HNY HB6 m0 mr0 m1 mr1 m2 mr2 m3 mr3 m4 mr4 m5 mr5
    (try clear n0 nr0 n1 nr1 n2 nr2 n3 nr3 n4 nr4 n5 nr5)
    (try clear o0 or0 o1 or1 o2 or2 o3 or3 o4 or4 o5 or5)
    have HM := Lib.hid hm9
    obtain ⟨n0, n1, n2, n3, n4, n5, nr0, nr1, nr2, nr3, nr4, nr5⟩ := cf6 (hm9.res)
    obtain ⟨o0, o1, o2, o3, o4, o5, or0, or1, or2, or3, or4, or5⟩ := cf6 (hm9.out)
    clear hm9
    go_wp2_with fail
    obtain ⟨W9, hW9⟩ : ∃ W9, W9 = ((((((wc.setCell ⟨w.heap.size, 0, none⟩ (.int .i64 7)).setCell ⟨w.heap.size, 1, none⟩ (.string (tx t))).setCell ⟨w.heap.size, 2, none⟩ (.int .i64 0)).setCell ⟨w.heap.size, 3, none⟩ (.slice none 0 0)).setCell ⟨w.heap.size, 4, none⟩ (.slice none 0 0)).setCell ⟨w.heap.size, 5, none⟩ (.slice A9 1 c9)) := ⟨_, rfl⟩
    have h9 : W9.heap[w.heap.size]? = some (.cells #[.int .i64 7, .string (tx t), .int .i64 0, .slice none 0 0, .slice none 0 0, .slice A9 1 c9] 25 (0, 0)) := by rw [hW9]; exact agg_set6 HM.out.res
    obtain ⟨z0, z1, z2, z3, z4, z5⟩ := cc6 h9
    have HT9 : Hid (Turns (fun k => k = w.heap.size) wc W9) := Lib.hid (by rw [hW9]; exact six_turns (T := fun k => k = w.heap.size) (Turns.refl _ _) (w.heap.size) rfl)
    rw [← hW9]
    clear hW9 h9
    refine bodyPost_ret (v := .agg #[.int .i64 7, .string (tx t), .int .i64 0, .slice none 0 0, .slice none 0 0, .slice A9 1 c9]) (by simp [results, Try.results42, go_sem, z0, z1, z2, z3, z4, z5]) rfl ?_
    rw [HE.out]
    refine ⟨⟨none, 0, none, 0, A9, c9⟩, rfl, HM.out.len.2, HM.out.fin HT9.out, ?_⟩
    exact HM.out.node HT9.out ⟨by decide, by decide⟩ ⟨by decide, by decide⟩ (tx_size HOK.out HT.out)
  | false =>
   obtain ⟨s1, hs1⟩ : ∃ s1, (if isT T s 2 eB then s else failT s t 13) = s1 := ⟨_, rfl⟩
   have HS1 := Lib.hid hs1
   have HE0 : Hid (msgS T (rcF T f) s = (.node 7 (msgL T (rcF T f) (T.length + 1) eB [] s1).1 0 [] [] (msgL T (rcF T f) (T.length + 1) eB [] s1).2.1, (msgL T (rcF T f) (T.length + 1) eB [] s1).2.2)) := Lib.hid (by
    unfold msgS
    rw [if_neg (by rw [HB1.out]; decide), if_neg (by rw [HB3.out]; decide), HT.out]
    dsimp only
    rw [hs1])
   have HI1 : Hid (s1.i = s.i) := Lib.hid (by rw [← hs1]; split; rfl; exact failT_i _ _ _)
   clear hs1
   go_upto_if 33 with (first | (go_at_call 22; (with_reducible refine (is_at HM.out.pt.1.pt bel HOK.out 1 eB).mono ?_); rw [HB1.out]; rintro e w4 ⟨rfl, hx⟩; have hm9 := HM.out.go bel hx; clear HM; have HM := Lib.hid hm9; (try clear n0 nr0 n1 nr1 n2 nr2 n3 nr3 n4 nr4 n5 nr5); (try clear o0 or0 o1 or1 o2 or2 o3 or3 o4 or4 o5 or5); obtain ⟨n0, n1, n2, n3, n4, n5, nr0, nr1, nr2, nr3, nr4, nr5⟩ := cf6 (hm9.res); obtain ⟨o0, o1, o2, o3, o4, o5, or0, or1, or2, or3, or4, or5⟩ := cf6 (hm9.out); clear hm9 hx) | (go_at_call 22; (with_reducible refine (is_at HM.out.pt.1.pt bel HOK.out 3 eB).mono ?_); rw [HB3.out]; rintro e w4 ⟨rfl, hx⟩; have hm9 := HM.out.go bel hx; clear HM; have HM := Lib.hid hm9; (try clear n0 nr0 n1 nr1 n2 nr2 n3 nr3 n4 nr4 n5 nr5); (try clear o0 or0 o1 or1 o2 or2 o3 or3 o4 or4 o5 or5); obtain ⟨n0, n1, n2, n3, n4, n5, nr0, nr1, nr2, nr3, nr4, nr5⟩ := cf6 (hm9.res); obtain ⟨o0, o1, o2, o3, o4, o5, or0, or1, or2, or3, or4, or5⟩ := cf6 (hm9.out); clear hm9 hx) | (go_at_call 22; (with_reducible refine (is_at HM.out.pt.1.pt bel HOK.out 2 eB).mono ?_); rw [HB2.out]; rintro e w4 ⟨rfl, hx⟩; have hm9 := HM.out.go bel hx; clear HM; have HM := Lib.hid hm9; (try clear n0 nr0 n1 nr1 n2 nr2 n3 nr3 n4 nr4 n5 nr5); (try clear o0 or0 o1 or1 o2 or2 o3 or3 o4 or4 o5 or5); obtain ⟨n0, n1, n2, n3, n4, n5, nr0, nr1, nr2, nr3, nr4, nr5⟩ := cf6 (hm9.res); obtain ⟨o0, o1, o2, o3, o4, o5, or0, or1, or2, or3, or4, or5⟩ := cf6 (hm9.out); clear hm9 hx))
   go_cut [] (fun wx => Mw w wx (dOut w (w.heap.size + 1)) (w.heap.size + 1) pb v T s1 7 eB (.slice none 0 0) [])
   case first =>
    cases b2 with
    | true =>
     have e9 : s1 = s := by have h := HS1.out; rw [if_pos HB2.out] at h; exact h.symm
     go_wp2_with fail
     go_meet
     rw [e9]; exact HM.out
    | false =>
     have e9 : s1 = failT s t 13 := by have h := HS1.out; rw [if_neg (by rw [HB2.out]; decide)] at h; exact h.symm
     go_wp2_with (first | (go_at_call 27; (with_reducible refine (ahead0_at HM.out.pt.1.pt bel HOK.out HT.out).mono ?_); rintro e wa ⟨rfl, hx⟩; have hm9 := HM.out.go bel hx; clear HM; have HM := Lib.hid hm9; (try clear n0 nr0 n1 nr1 n2 nr2 n3 nr3 n4 nr4 n5 nr5); (try clear o0 or0 o1 or1 o2 or2 o3 or3 o4 or4 o5 or5); obtain ⟨n0, n1, n2, n3, n4, n5, nr0, nr1, nr2, nr3, nr4, nr5⟩ := cf6 (hm9.res); obtain ⟨o0, o1, o2, o3, o4, o5, or0, or1, or2, or3, or4, or5⟩ := cf6 (hm9.out); clear hm9 hx) | (go_at_call 25; (with_reducible refine (pfail_any (HM.out.pt.1.below bel) t 13).mono ?_); rintro e wf ⟨rfl, hx⟩; have hm9 := HM.out.go bel hx; clear HM; have HM := Lib.hid hm9; (try clear n0 nr0 n1 nr1 n2 nr2 n3 nr3 n4 nr4 n5 nr5); (try clear o0 or0 o1 or1 o2 or2 o3 or3 o4 or4 o5 or5); obtain ⟨n0, n1, n2, n3, n4, n5, nr0, nr1, nr2, nr3, nr4, nr5⟩ := cf6 (hm9.res); obtain ⟨o0, o1, o2, o3, o4, o5, or0, or1, or2, or3, or4, or5⟩ := cf6 (hm9.out); clear hm9 hx))
     go_meet
     rw [e9]; exact HM.out
   case rest =>
    clear HM
    (try clear n0 nr0 n1 nr1 n2 nr2 n3 nr3 n4 nr4 n5 nr5)
    (try clear o0 or0 o1 or1 o2 or2 o3 or3 o4 or4 o5 or5)
    have HC := Lib.hid hcut
    clear hcut
    go_wp2_with fail
    go_loopg [] (T.length + 1) (fun g wr => ∃ (tv : ByteArray) (A : Option Addr) (n c : Nat) (ps : List NP) (sk : PSt), Mw w wr (dOut w (w.heap.size + 1)) (w.heap.size + 1) pb v T sk 7 tv (.slice A n c) ps ∧ msgL T (rcF T f) (T.length + 1) eB [] s1 = msgL T (rcF T f) g tv (ps.map Prod.fst) sk ∧ T.length < g + sk.i ∧ sk.i ≤ T.length ∧ tv.size ≤ 100000 * sk.i ∧ ps.length ≤ sk.i ∧ s.i ≤ sk.i)
    case atStart => exact ⟨eB, none, 0, 0, [], s1, HC.out, rfl, by have := HI1.out; omega, by rw [HI1.out]; exact HI.out, Nat.zero_le _, Nat.zero_le _, by rw [HI1.out]; exact Nat.le_refl _⟩
    case round =>
     obtain ⟨tv, A, n, c, ps, sk, hm9, hul, hg, hil, htv, hpl, hmo⟩ := hrel
     clear HT HC
     have HM := Lib.hid hm9
     have HUL := Lib.hid hul
     have HG := Lib.hid hg
     have HIL := Lib.hid hil
     have HTV := Lib.hid htv
     have HPL := Lib.hid hpl
     have HMO := Lib.hid hmo
     obtain ⟨t, ht⟩ : ∃ t, ahd T sk 0 = t := ⟨_, rfl⟩
     have HT := Lib.hid ht
     obtain ⟨b, hb⟩ : ∃ b, isT T sk 2 eB = b := ⟨_, rfl⟩
     have HB := Lib.hid hb
     have hf1 := tfld1
     have hlt5 : 100000 * T.length ≤ 10000000000 := by have := HOK.out.len; omega
     have HTZ : Hid (tv.size ≤ 10000000000) := Lib.hid (by have := Nat.mul_le_mul_left 100000 hil; omega)
     obtain ⟨n0, n1, n2, n3, n4, n5, nr0, nr1, nr2, nr3, nr4, nr5⟩ := cf6 (hm9.res)
     obtain ⟨o0, o1, o2, o3, o4, o5, or0, or1, or2, or3, or4, or5⟩ := cf6 (hm9.out)
     clear hm9 hul hg hil htv hpl hmo ht hb hlt5
     cases b with
     | true =>
      have HLT := Lib.hid (isT_lt HB.out HOK.out (by decide))
      have HI1 : Hid ((takeT sk).i ≤ T.length) := Lib.hid HLT.out
      have HF5 : Hid (8 * (T.length - (takeT sk).i) + 1 < f) := Lib.hid (by have := HFU.out; have := HMO.out; have := HLT.out; show 8 * (T.length - (sk.i + 1)) + 1 < f; omega)
      obtain ⟨⟨y, s6⟩, hr0⟩ : ∃ r, (rcF T f).prim (takeT sk) = r := ⟨_, rfl⟩
      have HR0 := Lib.hid hr0
      have hgp := (rcF_go HOK.out.at0 f).prim (takeT sk)
      rw [hr0] at hgp
      have HI6 : Hid (s6.i ≤ T.length) := Lib.hid (hgp.go.top HI1.out)
      obtain ⟨⟨y2, s8⟩, hr1⟩ : ∃ r, unT T y s6 = r := ⟨_, rfl⟩
      have HR1 := Lib.hid hr1
      have hgu := un_gp HOK.out.at0 y s6 hgp.kids
      rw [hr1] at hgu
      have HI8 : Hid (s8.i ≤ T.length) := Lib.hid (hgu.go.top HI6.out)
      have hle8 : sk.i + 1 ≤ s8.i := Nat.le_trans hgp.go.le hgu.go.le
      have HF8 : Hid (8 * (T.length - s8.i) + 2 < f) := Lib.hid (by have := HFU.out; have := HMO.out; have := HLT.out; omega)
      obtain ⟨⟨y3, s10⟩, hr2⟩ : ∃ r, (rcF T f).bin y2 s8 = r := ⟨_, rfl⟩
      have HR2 := Lib.hid hr2
      have hgb := (rcF_go HOK.out.at0 f).bin y2 s8 hgu.kids
      rw [hr2] at hgb
      have HI10 : Hid (s10.i ≤ T.length ∧ sk.i + 1 ≤ s10.i) := Lib.hid ⟨hgb.go.top HI8.out, Nat.le_trans hle8 hgb.go.le⟩
      clear hr0 hgp hr1 hgu hle8 hr2 hgb
      have HBI := HB
      have hcat : ¬ 9223372036854775807 < tv.size + (tx t).size := by have h1 := HOK.out.text t (by rw [← HT.out]; exact ahd_mem HOK.out); have := HTZ.out; omega
      go_upto_region 13 with (first | (go_at_call 22; (with_reducible refine (is_at HM.out.pt.1.pt bel HOK.out 2 eB).mono ?_); rw [HB.out]; rintro e w4 ⟨rfl, hx⟩; have hm9 := HM.out.go bel hx; clear HM; have HM := Lib.hid hm9; (try clear n0 nr0 n1 nr1 n2 nr2 n3 nr3 n4 nr4 n5 nr5); (try clear o0 or0 o1 or1 o2 or2 o3 or3 o4 or4 o5 or5); obtain ⟨n0, n1, n2, n3, n4, n5, nr0, nr1, nr2, nr3, nr4, nr5⟩ := cf6 (hm9.res); obtain ⟨o0, o1, o2, o3, o4, o5, or0, or1, or2, or3, or4, or5⟩ := cf6 (hm9.out); clear hm9 hx))
      go_cut [] from 38 to 59 (fun wx => Mw w wx (dOut w (w.heap.size + 1)) (w.heap.size + 1) pb v T (takeT sk) 7 (tv ++ tx t) (.slice A n c) ps)
      case first =>
       go_region_law (first | (go_simp; go_at_call 23; (with_reducible refine (take_any (HM.out.pt.1.below bel) HOK.out HIL.out HT.out).mono ?_); rintro e w5 ⟨rfl, hx⟩; have hm9 := HM.out.go bel hx; have HM5 := Lib.hid hm9; obtain ⟨o0, o1, o2, o3, o4, o5, or0, or1, or2, or3, or4, or5⟩ := cf6 (hm9.out); clear hm9 hx))
       all_goals
        go_wp2_with fail
        go_meet
        exact HM5.out.text (tv ++ tx t)
      case rest =>
       clear HM
       (try clear n0 nr0 n1 nr1 n2 nr2 n3 nr3 n4 nr4 n5 nr5)
       (try clear o0 or0 o1 or1 o2 or2 o3 or3 o4 or4 o5 or5)
       rename World => wt
       have hm9 := hcut
       have HM := Lib.hid hm9
       have HFR := Lib.hid hm9.fresh
       obtain ⟨n0, n1, n2, n3, n4, n5, nr0, nr1, nr2, nr3, nr4, nr5⟩ := cf6 (hm9.res)
       obtain ⟨o0, o1, o2, o3, o4, o5, or0, or1, or2, or3, or4, or5⟩ := cf6 (hm9.out)
       clear hm9 hcut
       go_upto_region 15 with (first | (go_at_call 38; (with_reducible refine (hp.prim (HM.out.pt.1.below bel) HI1.out HF5.out).mono ?_); rw [HR0.out]; rintro e w6 ⟨qy, rfl, hx, hny⟩; unfold ndV; have HNY := Lib.hid (hny.more (D' := fun b => wt.heap.size ≤ b) (fun b z _ => z.elim False.elim (fun z => Nat.le_trans (show Below wt.heap.size wt _ from bel).size z))); have HNW := Lib.hid (Nat.le_trans (show Below wt.heap.size wt _ from bel).size hx.2.size); clear hny; have hm9 := HM.out.go bel hx; clear HM; have HM := Lib.hid hm9; (try clear n0 nr0 n1 nr1 n2 nr2 n3 nr3 n4 nr4 n5 nr5); (try clear o0 or0 o1 or1 o2 or2 o3 or3 o4 or4 o5 or5); obtain ⟨n0, n1, n2, n3, n4, n5, nr0, nr1, nr2, nr3, nr4, nr5⟩ := cf6 (hm9.res); obtain ⟨o0, o1, o2, o3, o4, o5, or0, or1, or2, or3, or4, or5⟩ := cf6 (hm9.out); clear hm9 hx))
       have hal := (Below.refl w6.heap.size w6).alloc (Nat.le_refl _) (.cells #[.int .i64 y.kind, .string y.text, .int .i64 y.num, .slice qy.pn y.names.length qy.cn, .slice qy.pt y.temps.length qy.ct, .slice qy.pk y.kids.length qy.ck] 25)
       have h7 := heap_alloc_new w6 (.cells #[.int .i64 y.kind, .string y.text, .int .i64 y.num, .slice qy.pn y.names.length qy.cn, .slice qy.pt y.temps.length qy.ct, .slice qy.pk y.kids.length qy.ck] 25)
       have hm9 := (HM.out.apart w6.heap.size (Nat.le_refl _)).below hal
       have hny := (HNY.out.lt.under hal).more (D' := (fun b => wt.heap.size ≤ b ∧ b ≠ w6.heap.size)) (fun b z _ => ⟨z.1, by have := z.2; omega⟩)
       have hlw : w.heap.size < wt.heap.size := (HFR.out _ (Nat.le_refl _)).1.1
       have hl7 : w6.heap.size < (w6.alloc (.cells #[.int .i64 y.kind, .string y.text, .int .i64 y.num, .slice qy.pn y.names.length qy.cn, .slice qy.pt y.temps.length qy.ct, .slice qy.pk y.kids.length qy.ck] 25)).heap.size := by rw [World.size_alloc]; exact Nat.lt_succ_self _
       obtain ⟨w7, hw9⟩ : ∃ wt, w6.alloc (.cells #[.int .i64 y.kind, .string y.text, .int .i64 y.num, .slice qy.pn y.names.length qy.cn, .slice qy.pt y.temps.length qy.ct, .slice qy.pk y.kids.length qy.ck] 25) = wt := ⟨_, rfl⟩
       rw [hw9] at hm9 h7 hny hl7 ⊢
       clear HM HNY hal hw9
       have HM := Lib.hid hm9
       (try clear n0 nr0 n1 nr1 n2 nr2 n3 nr3 n4 nr4 n5 nr5)
       (try clear o0 or0 o1 or1 o2 or2 o3 or3 o4 or4 o5 or5)
       obtain ⟨n0, n1, n2, n3, n4, n5, nr0, nr1, nr2, nr3, nr4, nr5⟩ := cf6 (hm9.res)
       obtain ⟨o0, o1, o2, o3, o4, o5, or0, or1, or2, or3, or4, or5⟩ := cf6 (hm9.out)
       have HNY := Lib.hid hny
       have HB6 := Lib.hid h7
       have HLW : Hid (w.heap.size < wt.heap.size ∧ pb < w.heap.size) := Lib.hid ⟨hlw, hm9.pl⟩
       have HL7 := Lib.hid hl7
       obtain ⟨m0, m1, m2, m3, m4, m5, mr0, mr1, mr2, mr3, mr4, mr5⟩ := cf6 (h7)
       clear hm9 h7 hny hlw hl7
       have HLW7 : Hid (wt.heap.size ≤ w7.heap.size) := Lib.hid (by have := HNW.out; have := HL7.out; omega)
       go_upto_region 16 with (first | (go_at_call 39; (with_reducible refine (un_at (HM.out.pt.1.below bel) HOK.out HI6.out (D := (fun b => wt.heap.size ≤ b ∧ b ≠ w6.heap.size)) (fun b z e => by have := HLW.out; have := z.1; omega) (HNY.out.under bel)).mono ?_); rw [HR1.out]; rintro e w8 ⟨q2, rfl, hx, hn8⟩; unfold ndV; have hb6 := PT.keepB bel hx HB6.out (by have := HLW.out; have := HNW.out; omega); have HB8 := Lib.hid hb6; have HN8 := Lib.hid (hn8.more (D' := (fun b => wt.heap.size ≤ b ∧ b ≠ w6.heap.size)) (fun b z _ => z.elim id (fun z => by have h6 := Nat.le_trans (show Below w7.heap.size w7 _ from bel).size z; have := HLW7.out; have := HL7.out; exact ⟨by omega, by omega⟩))); have HZ8 : Hid (w7.heap.size ≤ w8.heap.size) := Lib.hid (Nat.le_trans (show Below w7.heap.size w7 _ from bel).size hx.2.size); (try clear m0 mr0 m1 mr1 m2 mr2 m3 mr3 m4 mr4 m5 mr5); obtain ⟨m0, m1, m2, m3, m4, m5, mr0, mr1, mr2, mr3, mr4, mr5⟩ := cf6 (hb6); clear hn8 hb6; have hm9 := HM.out.go bel hx; clear HM; have HM := Lib.hid hm9; (try clear n0 nr0 n1 nr1 n2 nr2 n3 nr3 n4 nr4 n5 nr5); (try clear o0 or0 o1 or1 o2 or2 o3 or3 o4 or4 o5 or5); obtain ⟨n0, n1, n2, n3, n4, n5, nr0, nr1, nr2, nr3, nr4, nr5⟩ := cf6 (hm9.res); obtain ⟨o0, o1, o2, o3, o4, o5, or0, or1, or2, or3, or4, or5⟩ := cf6 (hm9.out); clear hm9 hx))
       have hT9 : Turns (fun k => k = w6.heap.size) w8 ((((((w8.setCell ⟨w6.heap.size, 0, none⟩ (.int .i64 y2.kind)).setCell ⟨w6.heap.size, 1, none⟩ (.string y2.text)).setCell ⟨w6.heap.size, 2, none⟩ (.int .i64 y2.num)).setCell ⟨w6.heap.size, 3, none⟩ (.slice q2.pn y2.names.length q2.cn)).setCell ⟨w6.heap.size, 4, none⟩ (.slice q2.pt y2.temps.length q2.ct)).setCell ⟨w6.heap.size, 5, none⟩ (.slice q2.pk y2.kids.length q2.ck)) := six_turns (T := fun k => k = w6.heap.size) (Turns.refl _ _) w6.heap.size rfl
       have h9 : ((((((w8.setCell ⟨w6.heap.size, 0, none⟩ (.int .i64 y2.kind)).setCell ⟨w6.heap.size, 1, none⟩ (.string y2.text)).setCell ⟨w6.heap.size, 2, none⟩ (.int .i64 y2.num)).setCell ⟨w6.heap.size, 3, none⟩ (.slice q2.pn y2.names.length q2.cn)).setCell ⟨w6.heap.size, 4, none⟩ (.slice q2.pt y2.temps.length q2.ct)).setCell ⟨w6.heap.size, 5, none⟩ (.slice q2.pk y2.kids.length q2.ck)).heap[w6.heap.size]? = some (.cells #[.int .i64 y2.kind, .string y2.text, .int .i64 y2.num, .slice q2.pn y2.names.length q2.cn, .slice q2.pt y2.temps.length q2.ct, .slice q2.pk y2.kids.length q2.ck] 25 (0, 0)) := agg_set6 HB8.out
       have hm9 := HM.out.turned hT9 (fun k e => by have e9 : k = w6.heap.size := e; have h7 := HFR.out k (by have := HNW.out; omega); exact ⟨h7.1, h7.2, fun z => z.2 e9⟩)
       have hn9 := HN8.out.turns hT9 (fun b z _ e => z.2 e) (fun _ z => z)
       obtain ⟨w9, hw9⟩ : ∃ w9, ((((((w8.setCell ⟨w6.heap.size, 0, none⟩ (.int .i64 y2.kind)).setCell ⟨w6.heap.size, 1, none⟩ (.string y2.text)).setCell ⟨w6.heap.size, 2, none⟩ (.int .i64 y2.num)).setCell ⟨w6.heap.size, 3, none⟩ (.slice q2.pn y2.names.length q2.cn)).setCell ⟨w6.heap.size, 4, none⟩ (.slice q2.pt y2.temps.length q2.ct)).setCell ⟨w6.heap.size, 5, none⟩ (.slice q2.pk y2.kids.length q2.ck)) = w9 := ⟨_, rfl⟩
       have hs9 : w8.heap.size ≤ w9.heap.size := by rw [← hw9]; exact hT9.size
       rw [hw9] at h9 hm9 hn9 ⊢
       clear hw9 hT9 HM HN8 HB8 HB6 HNY m0 mr0 m1 mr1 m2 mr2 m3 mr3 m4 mr4 m5 mr5
       (try clear n0 nr0 n1 nr1 n2 nr2 n3 nr3 n4 nr4 n5 nr5)
       (try clear o0 or0 o1 or1 o2 or2 o3 or3 o4 or4 o5 or5)
       have HM := Lib.hid hm9
       have HN8 := Lib.hid hn9
       have HL7 : Hid (w6.heap.size < w9.heap.size) := Lib.hid (by have := HL7.out; have := HZ8.out; omega)
       have HLW7 : Hid (wt.heap.size ≤ w9.heap.size) := Lib.hid (by have := HLW7.out; have := HZ8.out; omega)
       obtain ⟨m0, m1, m2, m3, m4, m5, mr0, mr1, mr2, mr3, mr4, mr5⟩ := cf6 (h9)
       obtain ⟨n0, n1, n2, n3, n4, n5, nr0, nr1, nr2, nr3, nr4, nr5⟩ := cf6 (hm9.res)
       obtain ⟨o0, o1, o2, o3, o4, o5, or0, or1, or2, or3, or4, or5⟩ := cf6 (hm9.out)
       have HPB : Hid (ps.length ≤ 1000000) := Lib.hid (by have := HPL.out; have := HIL.out; have := HOK.out.len; omega)
       clear h9 hm9 hn9 hs9
       go_region_law (first | (go_simp; go_at_call 40; (with_reducible refine (bin_at hp (HM.out.pt.1.below bel) HI8.out (D := (fun b => wt.heap.size ≤ b ∧ b ≠ w6.heap.size)) (fun b z e => by have := HLW.out; have := z.1; omega) (HN8.out.under bel) HF8.out).mono ?_); rw [HR2.out]; rintro e w10 ⟨q3, rfl, hx, hn8⟩; unfold ndV; have hm9 := HM.out.go bel hx; have HM8 := Lib.hid hm9; have hb9 : Below w10.heap.size w10 (w10.alloc (.cells #[.int .i64 y3.kind, .string y3.text, .int .i64 y3.num, .slice q3.pn y3.names.length q3.cn, .slice q3.pt y3.temps.length q3.ct, .slice q3.pk y3.kids.length q3.ck] 25)) := (Below.refl _ _).alloc (Nat.le_refl _) _; have ha9 := hm9.below hb9; have HRW := Lib.hid ha9.row; obtain ⟨o0, o1, o2, o3, o4, o5, or0, or1, or2, or3, or4, or5⟩ := cf6 (hm9.out); obtain ⟨a0, a1, a2, a3, a4, a5, ar0, ar1, ar2, ar3, ar4, ar5⟩ := cf6 (ha9.out); have HN9 := Lib.hid ((hn8.under hb9).more (D' := fun b => (dOut w (w.heap.size + 1) b ∧ b ≠ w6.heap.size) ∧ Value.ownBlock (.slice A n c) ≠ some b) (fun b z _ => by have h8 : w6.heap.size < w9.heap.size := HL7.out; have h7 : (wt.heap.size ≤ b ∧ b ≠ w6.heap.size) := z.elim id (fun z => by have h6 := Nat.le_trans (show Below w9.heap.size w9 _ from bel).size z; have := HLW7.out; exact ⟨by omega, by omega⟩); exact ⟨⟨(HFR.out b h7.1).1, h7.2⟩, (HFR.out b h7.1).2⟩)); have HBS : Hid (w.heap.size + 1 + 1 ≤ (w10.alloc (.cells #[.int .i64 y3.kind, .string y3.text, .int .i64 y3.num, .slice q3.pn y3.names.length q3.cn, .slice q3.pt y3.temps.length q3.ct, .slice q3.pk y3.kids.length q3.ck] 25)).heap.size) := Lib.hid (by have h9 := lt_of_block ha9.out; omega); clear hx hn8 hm9 hb9 ha9) | (refine step_nd1 rfl _ _ rfl (by simp [Act.eval, Act.put]) HRW.out (by simp [Act.eval, Act.put]) (heap_alloc_new w10 _) HN9.out HPB.out HBS.out ?_; intro v9 w11 hown ht9; have HR9 := Lib.hid hown; have hm10 := HM8.out.push ((Below.refl _ _).alloc (Nat.le_refl _) _) hown ht9; have HT9A := Lib.hid ht9; have HM10 := Lib.hid hm10; obtain ⟨A9, c9, hv9, _⟩ := hown.slice; subst hv9; have ho9 := HM8.out.mid ((Below.refl _ _).alloc (Nat.le_refl _) _) ht9; have b5 : w11.cell? ⟨w.heap.size + 1, 5, none⟩ = some (.slice A n c) := cell_in ho9 rfl; have br5 : w11.frozen? ⟨w.heap.size + 1, 5, none⟩ = false := (by simp [World.frozen?, ho9]); clear hown ht9 hm10 ho9))
       all_goals
        go_wp2_with fail
        go_roundg (gk - 1)
        case measure => have := HG.out; have := HLT.out; omega
        case rel =>
         have hm9 := HM10.out.relax
         have hl9 : (ps ++ [(y3, q3)]).length = ps.length + 1 := by rw [List.length_append]; rfl
         rw [hl9] at hm9
         have hul : msgL T (rcF T f) (T.length + 1) eB [] s1 = msgL T (rcF T f) (gk - 1) (tv ++ tx t) ((ps ++ [(y3, q3)]).map Prod.fst) s10 := by
          have h9 : gk = (gk - 1) + 1 := by have := HG.out; have := HLT.out; omega
          rw [HUL.out, h9, msgL, if_pos HBI.out, HT.out, HR0.out, Nat.add_sub_cancel]
          show msgL T (rcF T f) (gk - 1) (tv ++ tx t) (ps.map Prod.fst ++ [((rcF T f).bin (unT T y s6).1 (unT T y s6).2).1]) ((rcF T f).bin (unT T y s6).1 (unT T y s6).2).2 = _
          rw [HR1.out]
          show msgL T (rcF T f) (gk - 1) (tv ++ tx t) (ps.map Prod.fst ++ [((rcF T f).bin y2 s8).1]) ((rcF T f).bin y2 s8).2 = _
          rw [HR2.out, List.map_append]
          rfl
         have htz : (tv ++ tx t).size ≤ 100000 * s10.i := text_step HTV.out (HOK.out.text t (by rw [← HT.out]; exact ahd_mem HOK.out)) HI10.out.2
         have hp2 : (ps ++ [(y3, q3)]).length ≤ s10.i := by rw [List.length_append]; exact Nat.le_trans (Nat.succ_le_succ HPL.out) HI10.out.2
         have hg2 : T.length < (gk - 1) + s10.i := fuel_step HG.out HLT.out HI10.out.2
         have hm2 : s.i ≤ s10.i := Nat.le_trans HMO.out (Nat.le_trans (Nat.le_succ _) HI10.out.2)
         exact ⟨(tv ++ tx t), A9, ps.length + 1, c9, ps ++ [(y3, q3)], s10, hm9, hul, hg2, HI10.out.1, htz, hp2, hm2⟩
     | false =>
      have hq : msgL T (rcF T f) (T.length + 1) eB [] s1 = (tv, ps.map Prod.fst, sk) := by
       rw [HUL.out]
       cases gk with
       | zero => rfl
       | succ g => rw [msgL, if_neg (by rw [HB.out]; decide)]
      have HE : Hid (msgS T (rcF T f) s = (.node 7 tv 0 [] [] (ps.map Prod.fst), sk)) := Lib.hid (by rw [HE0.out, hq])
      clear hq
      go_wp2_with (first | (go_at_call 22; (with_reducible refine (is_at HM.out.pt.1.pt bel HOK.out 2 eB).mono ?_); rw [HB.out]; rintro e w4 ⟨rfl, hx⟩; have hm9 := HM.out.go bel hx; clear HM; have HM := Lib.hid hm9; (try clear n0 nr0 n1 nr1 n2 nr2 n3 nr3 n4 nr4 n5 nr5); (try clear o0 or0 o1 or1 o2 or2 o3 or3 o4 or4 o5 or5); obtain ⟨n0, n1, n2, n3, n4, n5, nr0, nr1, nr2, nr3, nr4, nr5⟩ := cf6 (hm9.res); obtain ⟨o0, o1, o2, o3, o4, o5, or0, or1, or2, or3, or4, or5⟩ := cf6 (hm9.out); clear hm9 hx))
      obtain ⟨W9, hW9⟩ : ∃ W9, W9 = ((((((w4.setCell ⟨w.heap.size, 0, none⟩ (.int .i64 7)).setCell ⟨w.heap.size, 1, none⟩ (.string tv)).setCell ⟨w.heap.size, 2, none⟩ (.int .i64 0)).setCell ⟨w.heap.size, 3, none⟩ (.slice none 0 0)).setCell ⟨w.heap.size, 4, none⟩ (.slice none 0 0)).setCell ⟨w.heap.size, 5, none⟩ (.slice A n c)) := ⟨_, rfl⟩
      have h9 : W9.heap[w.heap.size]? = some (.cells #[.int .i64 7, .string tv, .int .i64 0, .slice none 0 0, .slice none 0 0, .slice A n c] 25 (0, 0)) := by rw [hW9]; exact agg_set6 HM.out.res
      obtain ⟨z0, z1, z2, z3, z4, z5⟩ := cc6 h9
      have HT9 : Hid (Turns (fun k => k = w.heap.size) w4 W9) := Lib.hid (by rw [hW9]; exact six_turns (T := fun k => k = w.heap.size) (Turns.refl _ _) (w.heap.size) rfl)
      rw [← hW9]
      clear hW9 h9
      refine bodyPost_ret (v := .agg #[.int .i64 7, .string tv, .int .i64 0, .slice none 0 0, .slice none 0 0, .slice A n c]) (by simp [results, Try.results42, go_sem, z0, z1, z2, z3, z4, z5]) rfl ?_
      rw [HE.out]
      refine ⟨⟨none, 0, none, 0, A, c⟩, by show Ending.returned (.agg #[.int .i64 7, .string tv, .int .i64 0, .slice none 0 0, .slice none 0 0, .slice A n c]) = Ending.returned (.agg #[.int .i64 7, .string tv, .int .i64 0, .slice none 0 0, .slice none 0 0, .slice A (ps.map Prod.fst).length c]); rw [List.length_map, HM.out.len.1], HM.out.len.2, HM.out.fin HT9.out, ?_⟩
      exact HM.out.node HT9.out ⟨by decide, by decide⟩ ⟨by decide, by decide⟩ (by have := HTZ.out; show _ ≤ 9223372036854775807; omega)
end Go.Proofs.Ytnojndgmgkgnpaa

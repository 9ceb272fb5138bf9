/- Chapter 10: the reference's parser: primaries. -/
import Derived.Test.YtnojndgmgkgnpaaPG
namespace Go.Proofs.Ytnojndgmgkgnpaa
open Go.ChangeShapes Go.WideShapes Go.ChangeAt Go.RowKit Go.Deep Go.Joins Go.Maps
set_option linter.unusedVariables false
set_option linter.unusedSimpArgs false
theorem wrp_in (x : Int) : InI (wrp x) := by unfold InI wrp Go.RowKit.wrap64; omega
theorem plain_leaf {T : Tks} (hok : TokOk T) (s : PSt) : ∃ k t n, (plainT T s).1 = .node k t n [] [] [] ∧ InI k ∧ InI n ∧ t.size ≤ big63 := by
 have hnum : ∀ (s : PSt) (k : Nat), InI (ahd T s k).num := fun s k => hok.num _ (ahd_mem hok)
 have htx : (tx (ahd T s 0)).size ≤ big63 := tx_size hok rfl
 have h0 : InI 0 := ⟨by decide, by decide⟩
 have he : eB.size ≤ big63 := by decide
 unfold plainT
 split
 ·exact ⟨_, _, _, rfl, ⟨by decide, by decide⟩, wrp_in _, he⟩
 ·split
  ·exact ⟨_, _, _, rfl, ⟨by decide, by decide⟩, hnum _ _, he⟩
  ·split
   ·exact ⟨_, _, _, rfl, ⟨by decide, by decide⟩, h0, htx⟩
   ·split
    ·exact ⟨_, _, _, rfl, ⟨by decide, by decide⟩, h0, htx⟩
    ·exact ⟨_, _, _, rfl, h0, h0, he⟩
set_option maxRecDepth 100000 in
set_option maxHeartbeats 16000000 in
theorem prim_go {f : Nat} {w : World} {pb : Nat} {v : Value} {T : Tks} {s : PSt} (hp : PSpec T f) (h : PW w pb v T s) (hok : TokOk T) (hi : s.i ≤ T.length) (hfu : 8 * (T.length - s.i) + 1 < f + 1) : Calls Try.prog 38 #[.pointer (some ⟨pb, 0, none⟩)] w (NdP (fun _ => False) pb v T (primS T (rcF T f) s) w) := by
 have HOK := Lib.hid hok
 have HI := Lib.hid hi
 have HFU : Hid (8 * (T.length - s.i) + 1 < f + 1) := Lib.hid hfu
 have hpl := lt_of_block h.box
 have HPL := Lib.hid hpl
 have HOLD := Lib.hid h.old
 have HOG : Hid (∀ k, v.ownBlock = some k → k < w.heap.size) := Lib.hid (fun k e => (World.ownsRow.lt h.row k e).2)
 clear hok hi hfu
 have H0 : Hid (PW (w.alloc (.cells #[.int .i64 0, .string eB, .int .i64 0, .slice none 0 0, .slice none 0 0, .slice none 0 0] 25)) pb v T s ∧ Below w.heap.size w (w.alloc (.cells #[.int .i64 0, .string eB, .int .i64 0, .slice none 0 0, .slice none 0 0, .slice none 0 0] 25)) ∧ (w.alloc (.cells #[.int .i64 0, .string eB, .int .i64 0, .slice none 0 0, .slice none 0 0, .slice none 0 0] 25)).heap[w.heap.size]? = some (.cells #[.int .i64 0, .string eB, .int .i64 0, .slice none 0 0, .slice none 0 0, .slice none 0 0] 25 (0, 0)) ∧ pb ≠ w.heap.size) := Lib.hid ⟨h.below ((Below.refl _ _).alloc (Nat.le_refl _) _), (Below.refl _ _).alloc (Nat.le_refl _) _, heap_alloc_new w _, by have := lt_of_block h.box; omega⟩
 clear h
 go_enter Try.func38, Try.ntmps38
 go_upto_region 1 with fail
 have h1 := H0.out
 obtain ⟨w1, hw1⟩ : ∃ w1, w.alloc (.cells #[.int .i64 0, .string eB, .int .i64 0, .slice none 0 0, .slice none 0 0, .slice none 0 0] 25) = w1 := ⟨_, rfl⟩
 rw [hw1] at h1 ⊢
 clear hw1
 have hzl := lt_of_block h1.2.2.1
 have hne := h1.2.2.2
 have H1 := Lib.hid h1
 clear h1 H0
 have k3 : w1.cell? ⟨pb, 3, none⟩ = some (.int .i64 s.e) := H1.out.1.cell rfl
 have HX : Hid (PT pb v T w w1 s) := Lib.hid ⟨H1.out.1, Turns.of_below H1.out.2.1⟩
 have HZ := Lib.hid H1.out.2.2.1
 clear H1
 by_cases he : s.e = 0
 ·rw [he] at k3
  have HS := Lib.hid he
  obtain ⟨⟨x, b, s2⟩, hpn⟩ : ∃ r, plainT T s = r := ⟨_, rfl⟩
  have HPN := Lib.hid hpn
  have HLF := Lib.hid (plain_leaf HOK.out s)
  have hpg := plain_go HOK.out.at0 s
  have hlf := HLF.out
  rw [hpn] at hpg hlf
  have HPG := Lib.hid hpg
  have HLN : Hid (∀ (W : World) (D : Nat → Prop), IsNd W D x ⟨none, 0, none, 0, none, 0⟩) := Lib.hid (by
   obtain ⟨k, t, n, e, e1, e2, e3⟩ := hlf
   intro W D
   have e9 : x = .node k t n [] [] [] := e
   rw [e9]
   exact IsNd.leaf W D e1 e2 e3)
  have HNV : Hid (ndV x ⟨none, 0, none, 0, none, 0⟩ = .agg #[.int .i64 x.kind, .string x.text, .int .i64 x.num, .slice none 0 0, .slice none 0 0, .slice none 0 0]) := Lib.hid (by
   obtain ⟨k, t, n, e, e1, e2, e3⟩ := hlf
   have e9 : x = .node k t n [] [] [] := e
   rw [e9]; rfl)
  clear he hpn hpg hlf HLF
  go_upto_region 4 with (first | (go_at_call 48; (with_reducible refine (plain7_any (HX.out.1.below bel) HOK.out HI.out).mono ?_); rw [HPN.out]; rintro e w3 ⟨rfl, hx⟩; have hz9 := PT.keepB bel hx HZ.out (by have := HPL.out; omega); have hx9 := (HX.out.below bel).go hx; clear HZ  HX; have HZ := Lib.hid hz9; have HX := Lib.hid hx9; clear hx9 hz9  hx))
  have hal := (Below.refl w3.heap.size w3).alloc (Nat.le_refl _) (.cells #[.int .i64 x.kind, .string x.text, .int .i64 x.num, .slice none 0 0, .slice none 0 0, .slice none 0 0] 25)
  have h3 := heap_alloc_new w3 (.cells #[.int .i64 x.kind, .string x.text, .int .i64 x.num, .slice none 0 0, .slice none 0 0, .slice none 0 0] 25)
  have hx4 := HX.out.below hal
  have hz4 := (hal.block _ (lt_of_block HZ.out)).trans HZ.out
  have hn3 : w.heap.size + 1 ≤ w3.heap.size := by have h9 := lt_of_block HZ.out; omega
  obtain ⟨w4, hw4⟩ : ∃ w4, w3.alloc (.cells #[.int .i64 x.kind, .string x.text, .int .i64 x.num, .slice none 0 0, .slice none 0 0, .slice none 0 0] 25) = w4 := ⟨_, rfl⟩
  rw [hw4] at hx4 hz4 h3 ⊢
  obtain ⟨nx, hn3'⟩ : ∃ nx, w3.heap.size = nx := ⟨_, rfl⟩
  rw [hn3'] at hn3 h3 ⊢
  clear hw4 hal HX HZ
  have HX := Lib.hid hx4
  have HZ := Lib.hid hz4
  have HB3 := Lib.hid h3
  have HN3 := Lib.hid hn3
  obtain ⟨m0, m1, m2, m3, m4, m5, mr0, mr1, mr2, mr3, mr4, mr5⟩ := cf6 (h3)
  obtain ⟨n0, n1, n2, n3, n4, n5, nr0, nr1, nr2, nr3, nr4, nr5⟩ := cf6 (hz4)
  clear hx4 hz4 h3 hn3
  cases b with
  | true =>
   have HE : Hid (primS T (rcF T f) s = (x, s2)) := Lib.hid (by unfold primS; rw [if_neg (by rw [HS.out]; decide), HPN.out]; rfl)
   go_wp2_with fail
   obtain ⟨W9, hW9⟩ : ∃ W9, W9 = ((((((w4.setCell ⟨w.heap.size, 0, none⟩ (.int .i64 x.kind)).setCell ⟨w.heap.size, 1, none⟩ (.string x.text)).setCell ⟨w.heap.size, 2, none⟩ (.int .i64 x.num)).setCell ⟨w.heap.size, 3, none⟩ (.slice none 0 0)).setCell ⟨w.heap.size, 4, none⟩ (.slice none 0 0)).setCell ⟨w.heap.size, 5, none⟩ (.slice none 0 0)) := ⟨_, rfl⟩
   have h9 : W9.heap[w.heap.size]? = some (.cells #[.int .i64 x.kind, .string x.text, .int .i64 x.num, .slice none 0 0, .slice none 0 0, .slice none 0 0] 25 (0, 0)) := by rw [hW9]; exact agg_set6 HZ.out
   obtain ⟨z0, z1, z2, z3, z4, z5⟩ := cc6 h9
   have HT9 : Hid (Turns (fun k => k = w.heap.size) w4 W9) := Lib.hid (by rw [hW9]; exact six_turns (T := fun k => k = w.heap.size) (Turns.refl _ _) (w.heap.size) rfl)
   rw [← hW9]
   clear hW9 h9
   refine bodyPost_ret (v := .agg #[.int .i64 x.kind, .string x.text, .int .i64 x.num, .slice none 0 0, .slice none 0 0, .slice none 0 0]) (by simp [results, Try.results38, go_sem, z0, z1, z2, z3, z4, z5]) rfl ?_
   rw [HE.out]
   refine ⟨⟨none, 0, none, 0, none, 0⟩, congrArg Ending.returned HNV.out.symm, HX.out.turned HT9.out (fun k e => ⟨by omega, by have := HPL.out; omega, by rw [e]; exact HOLD.out⟩), ?_⟩
   exact HLN.out _ _
  | false =>
   obtain ⟨ex0, es0⟩ := HPG.out.2.2.1 rfl
   have ex : x = nd0 := ex0
   have es : s2 = s := es0
   clear ex0 es0
   subst es
   have HX0 := Lib.hid ex
   clear ex HPG
   obtain ⟨t, ht⟩ : ∃ t, ahd T s2 0 = t := ⟨_, rfl⟩
   have HT := Lib.hid ht
   obtain ⟨b1, hb1⟩ : ∃ b, isT T s2 1 eB = b := ⟨_, rfl⟩
   have HB1 := Lib.hid hb1
   obtain ⟨b7, hb7⟩ : ∃ b, isT T s2 7 eB = b := ⟨_, rfl⟩
   have HB7 := Lib.hid hb7
   obtain ⟨bp, hbp⟩ : ∃ b, isT T s2 10 bPar = b := ⟨_, rfl⟩
   have HBP := Lib.hid hbp
   obtain ⟨bb, hbb⟩ : ∃ b, isT T s2 10 bBra = b := ⟨_, rfl⟩
   have HBB := Lib.hid hbb
   have HP0 : Hid (primS T (rcF T f) s2 = if b1 then (.node 5 (tx t) 0 [] [] [], takeT s2) else if b7 then (rcF T f).lits s2 else if bp then (if (openT T s2).1 then (((rcF T f).expr (openT T s2).2).1, shutT (needT T ((rcF T f).expr (openT T s2).2).2 10 bRap).2) else (nd0, (openT T s2).2)) else if bb then (rcF T f).blk s2 else (nd0, failT s2 t 13)) := Lib.hid (by
    unfold primS
    rw [if_neg (by rw [HS.out]; decide), HPN.out, hb1, hb7, hbp, hbb, ht]; rfl)
   have hf1 := tfld1
   clear ht hb1 hb7 hbp hbb
   cases b1 with
   | true =>
    have HE : Hid (primS T (rcF T f) s2 = (.node 5 (tx t) 0 [] [] [], takeT s2)) := Lib.hid (by rw [HP0.out, if_pos rfl])
    go_wp2_with (first | (go_at_call 22; (with_reducible refine (is_at HX.out.1.pt bel HOK.out 1 eB).mono ?_); rw [HB1.out]; rintro e w5 ⟨rfl, hx⟩; have hz9 := PT.keepB bel hx HZ.out (by have := HPL.out; omega); have hb9 := PT.keepB bel hx HB3.out (by have := HPL.out; have := HN3.out; omega); have hx9 := (HX.out.below bel).go hx; clear HZ HB3 HX; have HZ := Lib.hid hz9; have HB3 := Lib.hid hb9; have HX := Lib.hid hx9; obtain ⟨n0, n1, n2, n3, n4, n5, nr0, nr1, nr2, nr3, nr4, nr5⟩ := cf6 (hz9); obtain ⟨m0, m1, m2, m3, m4, m5, mr0, mr1, mr2, mr3, mr4, mr5⟩ := cf6 (hb9); clear hx9 hz9 hb9 hx) | (go_at_call 23; (with_reducible refine (take_any (HX.out.1.below bel) HOK.out HI.out HT.out).mono ?_); rintro e w6 ⟨rfl, hx⟩; have hz9 := PT.keepB bel hx HZ.out (by have := HPL.out; omega); have hb9 := PT.keepB bel hx HB3.out (by have := HPL.out; have := HN3.out; omega); have hx9 := (HX.out.below bel).go hx; clear HZ HB3 HX; have HZ := Lib.hid hz9; have HB3 := Lib.hid hb9; have HX := Lib.hid hx9; obtain ⟨n0, n1, n2, n3, n4, n5, nr0, nr1, nr2, nr3, nr4, nr5⟩ := cf6 (hz9); obtain ⟨m0, m1, m2, m3, m4, m5, mr0, mr1, mr2, mr3, mr4, mr5⟩ := cf6 (hb9); clear hx9 hz9 hb9 hx))
    obtain ⟨W9, hW9⟩ : ∃ W9, W9 = ((((((w6.setCell ⟨w.heap.size, 0, none⟩ (.int .i64 5)).setCell ⟨w.heap.size, 1, none⟩ (.string (tx t))).setCell ⟨w.heap.size, 2, none⟩ (.int .i64 0)).setCell ⟨w.heap.size, 3, none⟩ (.slice none 0 0)).setCell ⟨w.heap.size, 4, none⟩ (.slice none 0 0)).setCell ⟨w.heap.size, 5, none⟩ (.slice none 0 0)) := ⟨_, rfl⟩
    have h9 : W9.heap[w.heap.size]? = some (.cells #[.int .i64 5, .string (tx t), .int .i64 0, .slice none 0 0, .slice none 0 0, .slice none 0 0] 25 (0, 0)) := by rw [hW9]; exact agg_set6 HZ.out
    obtain ⟨z0, z1, z2, z3, z4, z5⟩ := cc6 h9
    have HT9 : Hid (Turns (fun k => k = w.heap.size) w6 W9) := Lib.hid (by rw [hW9]; exact six_turns (T := fun k => k = w.heap.size) (Turns.refl _ _) (w.heap.size) rfl)
    rw [← hW9]
    clear hW9 h9
    refine bodyPost_ret (v := .agg #[.int .i64 5, .string (tx t), .int .i64 0, .slice none 0 0, .slice none 0 0, .slice none 0 0]) (by simp [results, Try.results38, go_sem, z0, z1, z2, z3, z4, z5]) rfl ?_
    rw [HE.out]
    refine ⟨⟨none, 0, none, 0, none, 0⟩, rfl, HX.out.turned HT9.out (fun k e => ⟨by omega, by have := HPL.out; omega, by rw [e]; exact HOLD.out⟩), ?_⟩
    exact IsNd.leaf _ _ ⟨by decide, by decide⟩ ⟨by decide, by decide⟩ (tx_size HOK.out HT.out)
   | false =>
    cases b7 with
    | true =>
     have HLT := Lib.hid (isT_lt HB7.out HOK.out (by decide))
     have HF5 : Hid (8 * (T.length - s2.i) + 0 < f) := Lib.hid (by have := HFU.out; omega)
     obtain ⟨⟨y, s6⟩, hr0⟩ : ∃ r, (rcF T f).lits s2 = r := ⟨_, rfl⟩
     have HR0 := Lib.hid hr0
     have HE : Hid (primS T (rcF T f) s2 = (y, s6)) := Lib.hid (by rw [HP0.out, if_neg (by decide), if_pos rfl, hr0])
     clear hr0
     go_wp2_with (first | (go_at_call 22; (with_reducible refine (is_at HX.out.1.pt bel HOK.out 1 eB).mono ?_); rw [HB1.out]; rintro e w5 ⟨rfl, hx⟩; have hz9 := PT.keepB bel hx HZ.out (by have := HPL.out; omega); have hb9 := PT.keepB bel hx HB3.out (by have := HPL.out; have := HN3.out; omega); have hx9 := (HX.out.below bel).go hx; clear HZ HB3 HX; have HZ := Lib.hid hz9; have HB3 := Lib.hid hb9; have HX := Lib.hid hx9; obtain ⟨n0, n1, n2, n3, n4, n5, nr0, nr1, nr2, nr3, nr4, nr5⟩ := cf6 (hz9); obtain ⟨m0, m1, m2, m3, m4, m5, mr0, mr1, mr2, mr3, mr4, mr5⟩ := cf6 (hb9); clear hx9 hz9 hb9 hx) | (go_at_call 22; (with_reducible refine (is_at HX.out.1.pt bel HOK.out 7 eB).mono ?_); rw [HB7.out]; rintro e w6 ⟨rfl, hx⟩; have hz9 := PT.keepB bel hx HZ.out (by have := HPL.out; omega); have hb9 := PT.keepB bel hx HB3.out (by have := HPL.out; have := HN3.out; omega); have hx9 := (HX.out.below bel).go hx; clear HZ HB3 HX; have HZ := Lib.hid hz9; have HB3 := Lib.hid hb9; have HX := Lib.hid hx9; obtain ⟨n0, n1, n2, n3, n4, n5, nr0, nr1, nr2, nr3, nr4, nr5⟩ := cf6 (hz9); obtain ⟨m0, m1, m2, m3, m4, m5, mr0, mr1, mr2, mr3, mr4, mr5⟩ := cf6 (hb9); clear hx9 hz9 hb9 hx) | (go_at_call 49; (with_reducible refine (hp.lits (HX.out.1.below bel) HLT.out HF5.out).mono ?_); rw [HR0.out]; rintro e w7 ⟨qy, rfl, hx, hny⟩; unfold ndV; have HNY := Lib.hid (hny.more (D' := fun b => w.heap.size + 1 ≤ b) (fun b z _ => z.elim False.elim (fun z => by have h9 := lt_of_block HZ.out; omega))); clear hny; have hz9 := PT.keepB bel hx HZ.out (by have := HPL.out; omega); have hb9 := PT.keepB bel hx HB3.out (by have := HPL.out; have := HN3.out; omega); have hx9 := (HX.out.below bel).go hx; clear HZ HB3 HX; have HZ := Lib.hid hz9; have HB3 := Lib.hid hb9; have HX := Lib.hid hx9; obtain ⟨n0, n1, n2, n3, n4, n5, nr0, nr1, nr2, nr3, nr4, nr5⟩ := cf6 (hz9); obtain ⟨m0, m1, m2, m3, m4, m5, mr0, mr1, mr2, mr3, mr4, mr5⟩ := cf6 (hb9); clear hx9 hz9 hb9 hx))
     obtain ⟨W9, hW9⟩ : ∃ W9, W9 = ((((((w7.setCell ⟨w.heap.size, 0, none⟩ (.int .i64 y.kind)).setCell ⟨w.heap.size, 1, none⟩ (.string y.text)).setCell ⟨w.heap.size, 2, none⟩ (.int .i64 y.num)).setCell ⟨w.heap.size, 3, none⟩ (.slice qy.pn y.names.length qy.cn)).setCell ⟨w.heap.size, 4, none⟩ (.slice qy.pt y.temps.length qy.ct)).setCell ⟨w.heap.size, 5, none⟩ (.slice qy.pk y.kids.length qy.ck)) := ⟨_, rfl⟩
     have h9 : W9.heap[w.heap.size]? = some (.cells #[.int .i64 y.kind, .string y.text, .int .i64 y.num, .slice qy.pn y.names.length qy.cn, .slice qy.pt y.temps.length qy.ct, .slice qy.pk y.kids.length qy.ck] 25 (0, 0)) := by rw [hW9]; exact agg_set6 HZ.out
     obtain ⟨z0, z1, z2, z3, z4, z5⟩ := cc6 h9
     have HT9 : Hid (Turns (fun k => k = w.heap.size) w7 W9) := Lib.hid (by rw [hW9]; exact six_turns (T := fun k => k = w.heap.size) (Turns.refl _ _) (w.heap.size) rfl)
     rw [← hW9]
     clear hW9 h9
     refine bodyPost_ret (v := .agg #[.int .i64 y.kind, .string y.text, .int .i64 y.num, .slice qy.pn y.names.length qy.cn, .slice qy.pt y.temps.length qy.ct, .slice qy.pk y.kids.length qy.ck]) (by simp [results, Try.results38, go_sem, z0, z1, z2, z3, z4, z5]) rfl ?_
     rw [HE.out]
     refine ⟨qy, rfl, HX.out.turned HT9.out (fun k e => ⟨by omega, by have := HPL.out; omega, by rw [e]; exact HOLD.out⟩), ?_⟩
     exact HNY.out.turns HT9.out (fun b z _ e => by have e9 : b = w.heap.size := e; have z9 : w.heap.size + 1 ≤ b := z; omega) (fun b z => .inr (by have z9 : w.heap.size + 1 ≤ b := z; omega))
    | false =>
     cases bp with
     | true =>
      have HLT := Lib.hid (isT_lt HBP.out HOK.out (by decide))
      obtain ⟨⟨o, s5⟩, ho⟩ : ∃ r, openT T s2 = r := ⟨_, rfl⟩
      have HO := Lib.hid ho
      have hog := open_go (T := T) HLT.out
      rw [ho] at hog
      have HI5 : Hid (s5.i = s2.i + 1) := Lib.hid hog.2.1
      clear ho hog
      cases o with
      | false =>
       have HE : Hid (primS T (rcF T f) s2 = (x, s5)) := Lib.hid (by rw [HP0.out, if_neg (by decide), if_neg (by decide), if_pos rfl, HO.out, if_neg (by simp), HX0.out])
       go_wp2_with (first | (go_at_call 22; (with_reducible refine (is_at HX.out.1.pt bel HOK.out 1 eB).mono ?_); rw [HB1.out]; rintro e w5 ⟨rfl, hx⟩; have hz9 := PT.keepB bel hx HZ.out (by have := HPL.out; omega); have hb9 := PT.keepB bel hx HB3.out (by have := HPL.out; have := HN3.out; omega); have hx9 := (HX.out.below bel).go hx; clear HZ HB3 HX; have HZ := Lib.hid hz9; have HB3 := Lib.hid hb9; have HX := Lib.hid hx9; obtain ⟨n0, n1, n2, n3, n4, n5, nr0, nr1, nr2, nr3, nr4, nr5⟩ := cf6 (hz9); obtain ⟨m0, m1, m2, m3, m4, m5, mr0, mr1, mr2, mr3, mr4, mr5⟩ := cf6 (hb9); clear hx9 hz9 hb9 hx) | (go_at_call 22; (with_reducible refine (is_at HX.out.1.pt bel HOK.out 7 eB).mono ?_); rw [HB7.out]; rintro e w6 ⟨rfl, hx⟩; have hz9 := PT.keepB bel hx HZ.out (by have := HPL.out; omega); have hb9 := PT.keepB bel hx HB3.out (by have := HPL.out; have := HN3.out; omega); have hx9 := (HX.out.below bel).go hx; clear HZ HB3 HX; have HZ := Lib.hid hz9; have HB3 := Lib.hid hb9; have HX := Lib.hid hx9; obtain ⟨n0, n1, n2, n3, n4, n5, nr0, nr1, nr2, nr3, nr4, nr5⟩ := cf6 (hz9); obtain ⟨m0, m1, m2, m3, m4, m5, mr0, mr1, mr2, mr3, mr4, mr5⟩ := cf6 (hb9); clear hx9 hz9 hb9 hx) | (go_at_call 22; (with_reducible refine (is_at HX.out.1.pt bel HOK.out 10 bPar).mono ?_); rw [HBP.out]; rintro e wp ⟨rfl, hx⟩; have hz9 := PT.keepB bel hx HZ.out (by have := HPL.out; omega); have hb9 := PT.keepB bel hx HB3.out (by have := HPL.out; have := HN3.out; omega); have hx9 := (HX.out.below bel).go hx; clear HZ HB3 HX; have HZ := Lib.hid hz9; have HB3 := Lib.hid hb9; have HX := Lib.hid hx9; obtain ⟨n0, n1, n2, n3, n4, n5, nr0, nr1, nr2, nr3, nr4, nr5⟩ := cf6 (hz9); obtain ⟨m0, m1, m2, m3, m4, m5, mr0, mr1, mr2, mr3, mr4, mr5⟩ := cf6 (hb9); clear hx9 hz9 hb9 hx) | (go_at_call 50; (with_reducible refine (open_any (HX.out.1.below bel) HOK.out HI.out).mono ?_); rw [HO.out]; rintro e w7 ⟨rfl, hx⟩; have hz9 := PT.keepB bel hx HZ.out (by have := HPL.out; omega); have hb9 := PT.keepB bel hx HB3.out (by have := HPL.out; have := HN3.out; omega); have hx9 := (HX.out.below bel).go hx; clear HZ HB3 HX; have HZ := Lib.hid hz9; have HB3 := Lib.hid hb9; have HX := Lib.hid hx9; obtain ⟨n0, n1, n2, n3, n4, n5, nr0, nr1, nr2, nr3, nr4, nr5⟩ := cf6 (hz9); obtain ⟨m0, m1, m2, m3, m4, m5, mr0, mr1, mr2, mr3, mr4, mr5⟩ := cf6 (hb9); clear hx9 hz9 hb9 hx))
       obtain ⟨W9, hW9⟩ : ∃ W9, W9 = ((((((w7.setCell ⟨w.heap.size, 0, none⟩ (.int .i64 x.kind)).setCell ⟨w.heap.size, 1, none⟩ (.string x.text)).setCell ⟨w.heap.size, 2, none⟩ (.int .i64 x.num)).setCell ⟨w.heap.size, 3, none⟩ (.slice none 0 0)).setCell ⟨w.heap.size, 4, none⟩ (.slice none 0 0)).setCell ⟨w.heap.size, 5, none⟩ (.slice none 0 0)) := ⟨_, rfl⟩
       have h9 : W9.heap[w.heap.size]? = some (.cells #[.int .i64 x.kind, .string x.text, .int .i64 x.num, .slice none 0 0, .slice none 0 0, .slice none 0 0] 25 (0, 0)) := by rw [hW9]; exact agg_set6 HZ.out
       obtain ⟨z0, z1, z2, z3, z4, z5⟩ := cc6 h9
       have HT9 : Hid (Turns (fun k => k = w.heap.size) w7 W9) := Lib.hid (by rw [hW9]; exact six_turns (T := fun k => k = w.heap.size) (Turns.refl _ _) (w.heap.size) rfl)
       rw [← hW9]
       clear hW9 h9
       refine bodyPost_ret (v := .agg #[.int .i64 x.kind, .string x.text, .int .i64 x.num, .slice none 0 0, .slice none 0 0, .slice none 0 0]) (by simp [results, Try.results38, go_sem, z0, z1, z2, z3, z4, z5]) rfl ?_
       rw [HE.out]
       refine ⟨⟨none, 0, none, 0, none, 0⟩, congrArg Ending.returned HNV.out.symm, HX.out.turned HT9.out (fun k e => ⟨by omega, by have := HPL.out; omega, by rw [e]; exact HOLD.out⟩), ?_⟩
       exact HLN.out _ _
      | true =>
       have HI6 : Hid (s5.i ≤ T.length) := Lib.hid (by have := HI5.out; have := HLT.out; omega)
       have HF5 : Hid (8 * (T.length - s5.i) + 5 < f) := Lib.hid (by have := HI5.out; have := HLT.out; have := HFU.out; omega)
       obtain ⟨⟨y, s6⟩, hr0⟩ : ∃ r, (rcF T f).expr s5 = r := ⟨_, rfl⟩
       have HR0 := Lib.hid hr0
       have hgp := ((rcF_go HOK.out.at0 f).expr s5).go.top HI6.out
       rw [hr0] at hgp
       have HI7 : Hid (s6.i ≤ T.length) := Lib.hid hgp
       obtain ⟨⟨t9, s9⟩, hnq⟩ : ∃ r, needT T s6 10 bRap = r := ⟨_, rfl⟩
       have HNQ := Lib.hid hnq
       have HE : Hid (primS T (rcF T f) s2 = (y, shutT s9)) := Lib.hid (by
        rw [HP0.out, if_neg (by decide), if_neg (by decide), if_pos rfl, HO.out, if_pos rfl]
        show (((rcF T f).expr s5).1, shutT (needT T ((rcF T f).expr s5).2 10 bRap).2) = _
        rw [hr0]
        show (y, shutT (needT T s6 10 bRap).2) = _
        rw [hnq])
       clear hr0 hgp hnq
       go_upto_region 13 with (first | (go_at_call 22; (with_reducible refine (is_at HX.out.1.pt bel HOK.out 1 eB).mono ?_); rw [HB1.out]; rintro e w5 ⟨rfl, hx⟩; have hz9 := PT.keepB bel hx HZ.out (by have := HPL.out; omega); have hb9 := PT.keepB bel hx HB3.out (by have := HPL.out; have := HN3.out; omega); have hx9 := (HX.out.below bel).go hx; clear HZ HB3 HX; have HZ := Lib.hid hz9; have HB3 := Lib.hid hb9; have HX := Lib.hid hx9; obtain ⟨n0, n1, n2, n3, n4, n5, nr0, nr1, nr2, nr3, nr4, nr5⟩ := cf6 (hz9); obtain ⟨m0, m1, m2, m3, m4, m5, mr0, mr1, mr2, mr3, mr4, mr5⟩ := cf6 (hb9); clear hx9 hz9 hb9 hx) | (go_at_call 22; (with_reducible refine (is_at HX.out.1.pt bel HOK.out 7 eB).mono ?_); rw [HB7.out]; rintro e w6 ⟨rfl, hx⟩; have hz9 := PT.keepB bel hx HZ.out (by have := HPL.out; omega); have hb9 := PT.keepB bel hx HB3.out (by have := HPL.out; have := HN3.out; omega); have hx9 := (HX.out.below bel).go hx; clear HZ HB3 HX; have HZ := Lib.hid hz9; have HB3 := Lib.hid hb9; have HX := Lib.hid hx9; obtain ⟨n0, n1, n2, n3, n4, n5, nr0, nr1, nr2, nr3, nr4, nr5⟩ := cf6 (hz9); obtain ⟨m0, m1, m2, m3, m4, m5, mr0, mr1, mr2, mr3, mr4, mr5⟩ := cf6 (hb9); clear hx9 hz9 hb9 hx) | (go_at_call 22; (with_reducible refine (is_at HX.out.1.pt bel HOK.out 10 bPar).mono ?_); rw [HBP.out]; rintro e wp ⟨rfl, hx⟩; have hz9 := PT.keepB bel hx HZ.out (by have := HPL.out; omega); have hb9 := PT.keepB bel hx HB3.out (by have := HPL.out; have := HN3.out; omega); have hx9 := (HX.out.below bel).go hx; clear HZ HB3 HX; have HZ := Lib.hid hz9; have HB3 := Lib.hid hb9; have HX := Lib.hid hx9; obtain ⟨n0, n1, n2, n3, n4, n5, nr0, nr1, nr2, nr3, nr4, nr5⟩ := cf6 (hz9); obtain ⟨m0, m1, m2, m3, m4, m5, mr0, mr1, mr2, mr3, mr4, mr5⟩ := cf6 (hb9); clear hx9 hz9 hb9 hx) | (go_at_call 50; (with_reducible refine (open_any (HX.out.1.below bel) HOK.out HI.out).mono ?_); rw [HO.out]; rintro e w7 ⟨rfl, hx⟩; have hz9 := PT.keepB bel hx HZ.out (by have := HPL.out; omega); have hb9 := PT.keepB bel hx HB3.out (by have := HPL.out; have := HN3.out; omega); have hx9 := (HX.out.below bel).go hx; clear HZ HB3 HX; have HZ := Lib.hid hz9; have HB3 := Lib.hid hb9; have HX := Lib.hid hx9; obtain ⟨n0, n1, n2, n3, n4, n5, nr0, nr1, nr2, nr3, nr4, nr5⟩ := cf6 (hz9); obtain ⟨m0, m1, m2, m3, m4, m5, mr0, mr1, mr2, mr3, mr4, mr5⟩ := cf6 (hb9); clear hx9 hz9 hb9 hx))
       go_upto_region 14 with (first | (go_at_call 26; (with_reducible refine (hp.expr (HX.out.1.below bel) HI6.out HF5.out).mono ?_); rw [HR0.out]; rintro e w8 ⟨qy, rfl, hx, hny⟩; unfold ndV; have HNY := Lib.hid (hny.more (D' := fun b => w.heap.size + 1 ≤ b ∧ b ≠ nx) (fun b z _ => z.elim False.elim (fun z => by have h9 := lt_of_block HZ.out; have h8 := lt_of_block HB3.out; exact ⟨by omega, by omega⟩))); clear hny; have hz9 := PT.keepB bel hx HZ.out (by have := HPL.out; omega); have hb9 := PT.keepB bel hx HB3.out (by have := HPL.out; have := HN3.out; omega); have hx9 := (HX.out.below bel).go hx; clear HZ HB3 HX; have HZ := Lib.hid hz9; have HB3 := Lib.hid hb9; have HX := Lib.hid hx9; obtain ⟨n0, n1, n2, n3, n4, n5, nr0, nr1, nr2, nr3, nr4, nr5⟩ := cf6 (hz9); obtain ⟨m0, m1, m2, m3, m4, m5, mr0, mr1, mr2, mr3, mr4, mr5⟩ := cf6 (hb9); clear hx9 hz9 hb9 hx))
       have hT9 : Turns (fun k => k = nx) w8 ((((((w8.setCell ⟨nx, 0, none⟩ (.int .i64 y.kind)).setCell ⟨nx, 1, none⟩ (.string y.text)).setCell ⟨nx, 2, none⟩ (.int .i64 y.num)).setCell ⟨nx, 3, none⟩ (.slice qy.pn y.names.length qy.cn)).setCell ⟨nx, 4, none⟩ (.slice qy.pt y.temps.length qy.ct)).setCell ⟨nx, 5, none⟩ (.slice qy.pk y.kids.length qy.ck)) := six_turns (T := fun k => k = nx) (Turns.refl _ _) nx rfl
       have h9 : ((((((w8.setCell ⟨nx, 0, none⟩ (.int .i64 y.kind)).setCell ⟨nx, 1, none⟩ (.string y.text)).setCell ⟨nx, 2, none⟩ (.int .i64 y.num)).setCell ⟨nx, 3, none⟩ (.slice qy.pn y.names.length qy.cn)).setCell ⟨nx, 4, none⟩ (.slice qy.pt y.temps.length qy.ct)).setCell ⟨nx, 5, none⟩ (.slice qy.pk y.kids.length qy.ck)).heap[nx]? = some (.cells #[.int .i64 y.kind, .string y.text, .int .i64 y.num, .slice qy.pn y.names.length qy.cn, .slice qy.pt y.temps.length qy.ct, .slice qy.pk y.kids.length qy.ck] 25 (0, 0)) := agg_set6 HB3.out
       obtain ⟨w9, hw9⟩ : ∃ w9, ((((((w8.setCell ⟨nx, 0, none⟩ (.int .i64 y.kind)).setCell ⟨nx, 1, none⟩ (.string y.text)).setCell ⟨nx, 2, none⟩ (.int .i64 y.num)).setCell ⟨nx, 3, none⟩ (.slice qy.pn y.names.length qy.cn)).setCell ⟨nx, 4, none⟩ (.slice qy.pt y.temps.length qy.ct)).setCell ⟨nx, 5, none⟩ (.slice qy.pk y.kids.length qy.ck)) = w9 := ⟨_, rfl⟩
       rw [hw9] at h9 hT9 ⊢
       have hn3 := HN3.out
       have hz9 := (hT9.block _ (lt_of_block HZ.out) (fun e => by have e9 : w.heap.size = nx := e; omega)).trans HZ.out
       have hx9 : PT pb v T w w9 s6 := HX.out.turned hT9 (fun k e => by have e9 : k = nx := e; exact ⟨by omega, by have := HPL.out; omega, fun z => by have := HOG.out k z; omega⟩)
       have hny9 := HNY.out.turns hT9 (fun b z _ e => z.2 e) (fun _ z => z)
       clear hw9 HZ HX HB3 HNY m0 mr0 m1 mr1 m2 mr2 m3 mr3 m4 mr4 m5 mr5 n0 nr0 n1 nr1 n2 nr2 n3 nr3 n4 nr4 n5 nr5
       have HZ := Lib.hid hz9
       have HX := Lib.hid hx9
       have HB3 := Lib.hid h9
       have HNY := Lib.hid hny9
       clear hT9 h9 hn3 hz9 hx9 hny9
       go_upto_region 15 with (first | (go_at_call 17; (with_reducible refine (need_any (HX.out.1.below bel) HOK.out HI7.out 10 bRap HNQ.out).mono ?_); rintro e w10 ⟨rfl, hx⟩; have hny9 := PT.keepN bel hx HNY.out (fun b z e => by have := z.1; have := HPL.out; omega); clear HNY; have HNY := Lib.hid hny9; clear hny9; have hz9 := PT.keepB bel hx HZ.out (by have := HPL.out; omega); have hb9 := PT.keepB bel hx HB3.out (by have := HPL.out; have := HN3.out; omega); have hx9 := (HX.out.below bel).go hx; clear HZ HB3 HX; have HZ := Lib.hid hz9; have HB3 := Lib.hid hb9; have HX := Lib.hid hx9; obtain ⟨n0, n1, n2, n3, n4, n5, nr0, nr1, nr2, nr3, nr4, nr5⟩ := cf6 (hz9); obtain ⟨m0, m1, m2, m3, m4, m5, mr0, mr1, mr2, mr3, mr4, mr5⟩ := cf6 (hb9); clear hx9 hz9 hb9 hx))
       have k2 : w10.cell? ⟨pb, 2, none⟩ = some (.int .i64 s9.deep) := HX.out.1.cell rfl
       have f2 := HX.out.1.free 2
       go_upto_region 16 with fail
       have hx9 : PT pb v T w (w10.setCell ⟨pb, 2, none⟩ (.int .i64 (Go.RowKit.wrap64 (s9.deep - 1)))) (shutT s9) := HX.out.go (HX.out.1.put 2 _ rfl HX.out.1.le)
       have ht9 : Turns (atP pb) w10 (w10.setCell ⟨pb, 2, none⟩ (.int .i64 (Go.RowKit.wrap64 (s9.deep - 1)))) := (Turns.refl _ _).setCell ⟨pb, 2, none⟩ _ (.inl rfl)
       have hz9 := (ht9.block _ (lt_of_block HZ.out) (fun e => by have := HPL.out; have e9 : w.heap.size = pb := e; omega)).trans HZ.out
       have hb9 := (ht9.block _ (lt_of_block HB3.out) (fun e => by have := HPL.out; have := HN3.out; have e9 : nx = pb := e; omega)).trans HB3.out
       have hny9 := HNY.out.turns ht9 (fun b z _ e => by have := z.1; have := HPL.out; have e9 : b = pb := e; omega) (fun _ z => z)
       obtain ⟨w11, hw11⟩ : ∃ w11, w10.setCell ⟨pb, 2, none⟩ (.int .i64 (Go.RowKit.wrap64 (s9.deep - 1))) = w11 := ⟨_, rfl⟩
       rw [hw11] at hx9 hz9 hb9 hny9 ⊢
       clear ht9 hw11 HX HZ HB3 HNY k2 f2 m0 mr0 m1 mr1 m2 mr2 m3 mr3 m4 mr4 m5 mr5 n0 nr0 n1 nr1 n2 nr2 n3 nr3 n4 nr4 n5 nr5
       have HX := Lib.hid hx9
       have HZ := Lib.hid hz9
       have HNY := Lib.hid hny9
       obtain ⟨m0, m1, m2, m3, m4, m5, mr0, mr1, mr2, mr3, mr4, mr5⟩ := cf6 (hb9)
       obtain ⟨n0, n1, n2, n3, n4, n5, nr0, nr1, nr2, nr3, nr4, nr5⟩ := cf6 (hz9)
       clear hx9 hz9 hb9 hny9
       go_wp2_with fail
       obtain ⟨W9, hW9⟩ : ∃ W9, W9 = ((((((w11.setCell ⟨w.heap.size, 0, none⟩ (.int .i64 y.kind)).setCell ⟨w.heap.size, 1, none⟩ (.string y.text)).setCell ⟨w.heap.size, 2, none⟩ (.int .i64 y.num)).setCell ⟨w.heap.size, 3, none⟩ (.slice qy.pn y.names.length qy.cn)).setCell ⟨w.heap.size, 4, none⟩ (.slice qy.pt y.temps.length qy.ct)).setCell ⟨w.heap.size, 5, none⟩ (.slice qy.pk y.kids.length qy.ck)) := ⟨_, rfl⟩
       have h9 : W9.heap[w.heap.size]? = some (.cells #[.int .i64 y.kind, .string y.text, .int .i64 y.num, .slice qy.pn y.names.length qy.cn, .slice qy.pt y.temps.length qy.ct, .slice qy.pk y.kids.length qy.ck] 25 (0, 0)) := by rw [hW9]; exact agg_set6 HZ.out
       obtain ⟨z0, z1, z2, z3, z4, z5⟩ := cc6 h9
       have HT9 : Hid (Turns (fun k => k = w.heap.size) w11 W9) := Lib.hid (by rw [hW9]; exact six_turns (T := fun k => k = w.heap.size) (Turns.refl _ _) (w.heap.size) rfl)
       rw [← hW9]
       clear hW9 h9
       refine bodyPost_ret (v := .agg #[.int .i64 y.kind, .string y.text, .int .i64 y.num, .slice qy.pn y.names.length qy.cn, .slice qy.pt y.temps.length qy.ct, .slice qy.pk y.kids.length qy.ck]) (by simp [results, Try.results38, go_sem, z0, z1, z2, z3, z4, z5]) rfl ?_
       rw [HE.out]
       refine ⟨qy, rfl, HX.out.turned HT9.out (fun k e => ⟨by omega, by have := HPL.out; omega, by rw [e]; exact HOLD.out⟩), ?_⟩
       exact HNY.out.turns HT9.out (fun b z _ e => by have e9 : b = w.heap.size := e; have z9 := z.1; omega) (fun b z => .inr (by have z9 := z.1; omega))
     | false =>
      cases bb with
      | true =>
       have HLT := Lib.hid (isT_lt HBB.out HOK.out (by decide))
       have HF5 : Hid (8 * (T.length - s2.i) + 0 < f) := Lib.hid (by have := HFU.out; omega)
       obtain ⟨⟨y, s6⟩, hr0⟩ : ∃ r, (rcF T f).blk s2 = r := ⟨_, rfl⟩
       have HR0 := Lib.hid hr0
       have HE : Hid (primS T (rcF T f) s2 = (y, s6)) := Lib.hid (by rw [HP0.out, if_neg (by decide), if_neg (by decide), if_neg (by decide), if_pos rfl, hr0])
       clear hr0
       go_wp2_with (first | (go_at_call 22; (with_reducible refine (is_at HX.out.1.pt bel HOK.out 1 eB).mono ?_); rw [HB1.out]; rintro e w5 ⟨rfl, hx⟩; have hz9 := PT.keepB bel hx HZ.out (by have := HPL.out; omega); have hb9 := PT.keepB bel hx HB3.out (by have := HPL.out; have := HN3.out; omega); have hx9 := (HX.out.below bel).go hx; clear HZ HB3 HX; have HZ := Lib.hid hz9; have HB3 := Lib.hid hb9; have HX := Lib.hid hx9; obtain ⟨n0, n1, n2, n3, n4, n5, nr0, nr1, nr2, nr3, nr4, nr5⟩ := cf6 (hz9); obtain ⟨m0, m1, m2, m3, m4, m5, mr0, mr1, mr2, mr3, mr4, mr5⟩ := cf6 (hb9); clear hx9 hz9 hb9 hx) | (go_at_call 22; (with_reducible refine (is_at HX.out.1.pt bel HOK.out 7 eB).mono ?_); rw [HB7.out]; rintro e w6 ⟨rfl, hx⟩; have hz9 := PT.keepB bel hx HZ.out (by have := HPL.out; omega); have hb9 := PT.keepB bel hx HB3.out (by have := HPL.out; have := HN3.out; omega); have hx9 := (HX.out.below bel).go hx; clear HZ HB3 HX; have HZ := Lib.hid hz9; have HB3 := Lib.hid hb9; have HX := Lib.hid hx9; obtain ⟨n0, n1, n2, n3, n4, n5, nr0, nr1, nr2, nr3, nr4, nr5⟩ := cf6 (hz9); obtain ⟨m0, m1, m2, m3, m4, m5, mr0, mr1, mr2, mr3, mr4, mr5⟩ := cf6 (hb9); clear hx9 hz9 hb9 hx) | (go_at_call 22; (with_reducible refine (is_at HX.out.1.pt bel HOK.out 10 bPar).mono ?_); rw [HBP.out]; rintro e wp ⟨rfl, hx⟩; have hz9 := PT.keepB bel hx HZ.out (by have := HPL.out; omega); have hb9 := PT.keepB bel hx HB3.out (by have := HPL.out; have := HN3.out; omega); have hx9 := (HX.out.below bel).go hx; clear HZ HB3 HX; have HZ := Lib.hid hz9; have HB3 := Lib.hid hb9; have HX := Lib.hid hx9; obtain ⟨n0, n1, n2, n3, n4, n5, nr0, nr1, nr2, nr3, nr4, nr5⟩ := cf6 (hz9); obtain ⟨m0, m1, m2, m3, m4, m5, mr0, mr1, mr2, mr3, mr4, mr5⟩ := cf6 (hb9); clear hx9 hz9 hb9 hx) | (go_at_call 22; (with_reducible refine (is_at HX.out.1.pt bel HOK.out 10 bBra).mono ?_); rw [HBB.out]; rintro e wb ⟨rfl, hx⟩; have hz9 := PT.keepB bel hx HZ.out (by have := HPL.out; omega); have hb9 := PT.keepB bel hx HB3.out (by have := HPL.out; have := HN3.out; omega); have hx9 := (HX.out.below bel).go hx; clear HZ HB3 HX; have HZ := Lib.hid hz9; have HB3 := Lib.hid hb9; have HX := Lib.hid hx9; obtain ⟨n0, n1, n2, n3, n4, n5, nr0, nr1, nr2, nr3, nr4, nr5⟩ := cf6 (hz9); obtain ⟨m0, m1, m2, m3, m4, m5, mr0, mr1, mr2, mr3, mr4, mr5⟩ := cf6 (hb9); clear hx9 hz9 hb9 hx) | (go_at_call 51; (with_reducible refine (hp.blk (HX.out.1.below bel) HLT.out HF5.out).mono ?_); rw [HR0.out]; rintro e w7 ⟨qy, rfl, hx, hny⟩; unfold ndV; have HNY := Lib.hid (hny.more (D' := fun b => w.heap.size + 1 ≤ b) (fun b z _ => z.elim False.elim (fun z => by have h9 := lt_of_block HZ.out; omega))); clear hny; have hz9 := PT.keepB bel hx HZ.out (by have := HPL.out; omega); have hb9 := PT.keepB bel hx HB3.out (by have := HPL.out; have := HN3.out; omega); have hx9 := (HX.out.below bel).go hx; clear HZ HB3 HX; have HZ := Lib.hid hz9; have HB3 := Lib.hid hb9; have HX := Lib.hid hx9; obtain ⟨n0, n1, n2, n3, n4, n5, nr0, nr1, nr2, nr3, nr4, nr5⟩ := cf6 (hz9); obtain ⟨m0, m1, m2, m3, m4, m5, mr0, mr1, mr2, mr3, mr4, mr5⟩ := cf6 (hb9); clear hx9 hz9 hb9 hx))
       obtain ⟨W9, hW9⟩ : ∃ W9, W9 = ((((((w7.setCell ⟨w.heap.size, 0, none⟩ (.int .i64 y.kind)).setCell ⟨w.heap.size, 1, none⟩ (.string y.text)).setCell ⟨w.heap.size, 2, none⟩ (.int .i64 y.num)).setCell ⟨w.heap.size, 3, none⟩ (.slice qy.pn y.names.length qy.cn)).setCell ⟨w.heap.size, 4, none⟩ (.slice qy.pt y.temps.length qy.ct)).setCell ⟨w.heap.size, 5, none⟩ (.slice qy.pk y.kids.length qy.ck)) := ⟨_, rfl⟩
       have h9 : W9.heap[w.heap.size]? = some (.cells #[.int .i64 y.kind, .string y.text, .int .i64 y.num, .slice qy.pn y.names.length qy.cn, .slice qy.pt y.temps.length qy.ct, .slice qy.pk y.kids.length qy.ck] 25 (0, 0)) := by rw [hW9]; exact agg_set6 HZ.out
       obtain ⟨z0, z1, z2, z3, z4, z5⟩ := cc6 h9
       have HT9 : Hid (Turns (fun k => k = w.heap.size) w7 W9) := Lib.hid (by rw [hW9]; exact six_turns (T := fun k => k = w.heap.size) (Turns.refl _ _) (w.heap.size) rfl)
       rw [← hW9]
       clear hW9 h9
       refine bodyPost_ret (v := .agg #[.int .i64 y.kind, .string y.text, .int .i64 y.num, .slice qy.pn y.names.length qy.cn, .slice qy.pt y.temps.length qy.ct, .slice qy.pk y.kids.length qy.ck]) (by simp [results, Try.results38, go_sem, z0, z1, z2, z3, z4, z5]) rfl ?_
       rw [HE.out]
       refine ⟨qy, rfl, HX.out.turned HT9.out (fun k e => ⟨by omega, by have := HPL.out; omega, by rw [e]; exact HOLD.out⟩), ?_⟩
       exact HNY.out.turns HT9.out (fun b z _ e => by have e9 : b = w.heap.size := e; have z9 : w.heap.size + 1 ≤ b := z; omega) (fun b z => .inr (by have z9 : w.heap.size + 1 ≤ b := z; omega))
      | false =>
       have HE : Hid (primS T (rcF T f) s2 = (x, failT s2 t 13)) := Lib.hid (by rw [HP0.out, if_neg (by decide), if_neg (by decide), if_neg (by decide), if_neg (by decide), HX0.out])
       go_wp2_with (first | (go_at_call 22; (with_reducible refine (is_at HX.out.1.pt bel HOK.out 1 eB).mono ?_); rw [HB1.out]; rintro e w5 ⟨rfl, hx⟩; have hz9 := PT.keepB bel hx HZ.out (by have := HPL.out; omega); have hb9 := PT.keepB bel hx HB3.out (by have := HPL.out; have := HN3.out; omega); have hx9 := (HX.out.below bel).go hx; clear HZ HB3 HX; have HZ := Lib.hid hz9; have HB3 := Lib.hid hb9; have HX := Lib.hid hx9; obtain ⟨n0, n1, n2, n3, n4, n5, nr0, nr1, nr2, nr3, nr4, nr5⟩ := cf6 (hz9); obtain ⟨m0, m1, m2, m3, m4, m5, mr0, mr1, mr2, mr3, mr4, mr5⟩ := cf6 (hb9); clear hx9 hz9 hb9 hx) | (go_at_call 22; (with_reducible refine (is_at HX.out.1.pt bel HOK.out 7 eB).mono ?_); rw [HB7.out]; rintro e w6 ⟨rfl, hx⟩; have hz9 := PT.keepB bel hx HZ.out (by have := HPL.out; omega); have hb9 := PT.keepB bel hx HB3.out (by have := HPL.out; have := HN3.out; omega); have hx9 := (HX.out.below bel).go hx; clear HZ HB3 HX; have HZ := Lib.hid hz9; have HB3 := Lib.hid hb9; have HX := Lib.hid hx9; obtain ⟨n0, n1, n2, n3, n4, n5, nr0, nr1, nr2, nr3, nr4, nr5⟩ := cf6 (hz9); obtain ⟨m0, m1, m2, m3, m4, m5, mr0, mr1, mr2, mr3, mr4, mr5⟩ := cf6 (hb9); clear hx9 hz9 hb9 hx) | (go_at_call 22; (with_reducible refine (is_at HX.out.1.pt bel HOK.out 10 bPar).mono ?_); rw [HBP.out]; rintro e wp ⟨rfl, hx⟩; have hz9 := PT.keepB bel hx HZ.out (by have := HPL.out; omega); have hb9 := PT.keepB bel hx HB3.out (by have := HPL.out; have := HN3.out; omega); have hx9 := (HX.out.below bel).go hx; clear HZ HB3 HX; have HZ := Lib.hid hz9; have HB3 := Lib.hid hb9; have HX := Lib.hid hx9; obtain ⟨n0, n1, n2, n3, n4, n5, nr0, nr1, nr2, nr3, nr4, nr5⟩ := cf6 (hz9); obtain ⟨m0, m1, m2, m3, m4, m5, mr0, mr1, mr2, mr3, mr4, mr5⟩ := cf6 (hb9); clear hx9 hz9 hb9 hx) | (go_at_call 22; (with_reducible refine (is_at HX.out.1.pt bel HOK.out 10 bBra).mono ?_); rw [HBB.out]; rintro e wb ⟨rfl, hx⟩; have hz9 := PT.keepB bel hx HZ.out (by have := HPL.out; omega); have hb9 := PT.keepB bel hx HB3.out (by have := HPL.out; have := HN3.out; omega); have hx9 := (HX.out.below bel).go hx; clear HZ HB3 HX; have HZ := Lib.hid hz9; have HB3 := Lib.hid hb9; have HX := Lib.hid hx9; obtain ⟨n0, n1, n2, n3, n4, n5, nr0, nr1, nr2, nr3, nr4, nr5⟩ := cf6 (hz9); obtain ⟨m0, m1, m2, m3, m4, m5, mr0, mr1, mr2, mr3, mr4, mr5⟩ := cf6 (hb9); clear hx9 hz9 hb9 hx) | (go_at_call 27; (with_reducible refine (ahead0_at HX.out.1.pt bel HOK.out HT.out).mono ?_); rintro e wa ⟨rfl, hx⟩; have hz9 := PT.keepB bel hx HZ.out (by have := HPL.out; omega); have hb9 := PT.keepB bel hx HB3.out (by have := HPL.out; have := HN3.out; omega); have hx9 := (HX.out.below bel).go hx; clear HZ HB3 HX; have HZ := Lib.hid hz9; have HB3 := Lib.hid hb9; have HX := Lib.hid hx9; obtain ⟨n0, n1, n2, n3, n4, n5, nr0, nr1, nr2, nr3, nr4, nr5⟩ := cf6 (hz9); obtain ⟨m0, m1, m2, m3, m4, m5, mr0, mr1, mr2, mr3, mr4, mr5⟩ := cf6 (hb9); clear hx9 hz9 hb9 hx) | (go_at_call 25; (with_reducible refine (pfail_any (HX.out.1.below bel) t 13).mono ?_); rintro e w7 ⟨rfl, hx⟩; have hz9 := PT.keepB bel hx HZ.out (by have := HPL.out; omega); have hb9 := PT.keepB bel hx HB3.out (by have := HPL.out; have := HN3.out; omega); have hx9 := (HX.out.below bel).go hx; clear HZ HB3 HX; have HZ := Lib.hid hz9; have HB3 := Lib.hid hb9; have HX := Lib.hid hx9; obtain ⟨n0, n1, n2, n3, n4, n5, nr0, nr1, nr2, nr3, nr4, nr5⟩ := cf6 (hz9); obtain ⟨m0, m1, m2, m3, m4, m5, mr0, mr1, mr2, mr3, mr4, mr5⟩ := cf6 (hb9); clear hx9 hz9 hb9 hx))
       obtain ⟨W9, hW9⟩ : ∃ W9, W9 = ((((((w7.setCell ⟨w.heap.size, 0, none⟩ (.int .i64 x.kind)).setCell ⟨w.heap.size, 1, none⟩ (.string x.text)).setCell ⟨w.heap.size, 2, none⟩ (.int .i64 x.num)).setCell ⟨w.heap.size, 3, none⟩ (.slice none 0 0)).setCell ⟨w.heap.size, 4, none⟩ (.slice none 0 0)).setCell ⟨w.heap.size, 5, none⟩ (.slice none 0 0)) := ⟨_, rfl⟩
       have h9 : W9.heap[w.heap.size]? = some (.cells #[.int .i64 x.kind, .string x.text, .int .i64 x.num, .slice none 0 0, .slice none 0 0, .slice none 0 0] 25 (0, 0)) := by rw [hW9]; exact agg_set6 HZ.out
       obtain ⟨z0, z1, z2, z3, z4, z5⟩ := cc6 h9
       have HT9 : Hid (Turns (fun k => k = w.heap.size) w7 W9) := Lib.hid (by rw [hW9]; exact six_turns (T := fun k => k = w.heap.size) (Turns.refl _ _) (w.heap.size) rfl)
       rw [← hW9]
       clear hW9 h9
       refine bodyPost_ret (v := .agg #[.int .i64 x.kind, .string x.text, .int .i64 x.num, .slice none 0 0, .slice none 0 0, .slice none 0 0]) (by simp [results, Try.results38, go_sem, z0, z1, z2, z3, z4, z5]) rfl ?_
       rw [HE.out]
       refine ⟨⟨none, 0, none, 0, none, 0⟩, congrArg Ending.returned HNV.out.symm, HX.out.turned HT9.out (fun k e => ⟨by omega, by have := HPL.out; omega, by rw [e]; exact HOLD.out⟩), ?_⟩
       exact HLN.out _ _
 ·have HE : Hid (primS T (rcF T f) s = (nd0, s)) := Lib.hid (by unfold primS; rw [if_pos he])
  have y1 : (s.e == 0) = false := by simpa using he
  have hz9 := HZ.out
  obtain ⟨n0, n1, n2, n3, n4, n5, nr0, nr1, nr2, nr3, nr4, nr5⟩ := cf6 (hz9)
  clear hz9
  go_wp2_with fail
  obtain ⟨W9, hW9⟩ : ∃ W9, W9 = ((((((w1.setCell ⟨w.heap.size, 0, none⟩ (.int .i64 0)).setCell ⟨w.heap.size, 1, none⟩ (.string eB)).setCell ⟨w.heap.size, 2, none⟩ (.int .i64 0)).setCell ⟨w.heap.size, 3, none⟩ (.slice none 0 0)).setCell ⟨w.heap.size, 4, none⟩ (.slice none 0 0)).setCell ⟨w.heap.size, 5, none⟩ (.slice none 0 0)) := ⟨_, rfl⟩
  have h9 : W9.heap[w.heap.size]? = some (.cells #[.int .i64 0, .string eB, .int .i64 0, .slice none 0 0, .slice none 0 0, .slice none 0 0] 25 (0, 0)) := by rw [hW9]; exact agg_set6 HZ.out
  obtain ⟨z0, z1, z2, z3, z4, z5⟩ := cc6 h9
  have HT9 : Hid (Turns (fun k => k = w.heap.size) w1 W9) := Lib.hid (by rw [hW9]; exact six_turns (T := fun k => k = w.heap.size) (Turns.refl _ _) (w.heap.size) rfl)
  rw [← hW9]
  clear hW9 h9
  refine bodyPost_ret (v := .agg #[.int .i64 0, .string eB, .int .i64 0, .slice none 0 0, .slice none 0 0, .slice none 0 0]) (by simp [results, Try.results38, go_sem, z0, z1, z2, z3, z4, z5]) rfl ?_
  rw [HE.out]
  refine ⟨⟨none, 0, none, 0, none, 0⟩, rfl, HX.out.turned HT9.out (fun k e => ⟨by omega, by have := HPL.out; omega, by rw [e]; exact HOLD.out⟩), ?_⟩
  exact IsNd.leaf _ _ ⟨by decide, by decide⟩ ⟨by decide, by decide⟩ (by decide)
end Go.Proofs.Ytnojndgmgkgnpaa

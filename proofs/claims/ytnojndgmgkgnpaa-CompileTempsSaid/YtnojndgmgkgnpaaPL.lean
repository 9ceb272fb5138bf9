/- Chapter 10: the reference's parser: rows of literals. -/
import Derived.Test.YtnojndgmgkgnpaaPJ0
namespace Go.Proofs.Ytnojndgmgkgnpaa
open Go.ChangeShapes Go.WideShapes Go.ChangeAt Go.RowKit Go.Deep Go.Joins Go.Maps
set_option linter.unusedVariables false
set_option linter.unusedSimpArgs false
theorem lit_step {n g i j k l : Nat} (h : n < g + i) (h0 : 0 < g) (h1 : i < j) (h2 : k ≤ i) (h3 : l = k + 1) : n < (g - 1) + j ∧ l ≤ j := by omega
/-- a literal that is no row: a node without names and kids -/
theorem plain_leaf' {T : Tks} (hok : TokOk T) (s : PSt) : (∀ (W : World) (D : Nat → Prop), IsNd W D (plainT T s).1 ⟨none, 0, none, 0, none, 0⟩) ∧ (Obj.cells #[.int .i64 (plainT T s).1.kind, .string (plainT T s).1.text, .int .i64 (plainT T s).1.num, .slice none 0 0, .slice none 0 0, .slice none 0 0] 25 (0, 0)) = Obj.cells #[.int .i64 (plainT T s).1.kind, .string (plainT T s).1.text, .int .i64 (plainT T s).1.num, .slice (⟨none, 0, none, 0, none, 0⟩ : NS).pn (plainT T s).1.names.length (⟨none, 0, none, 0, none, 0⟩ : NS).cn, .slice (⟨none, 0, none, 0, none, 0⟩ : NS).pt (plainT T s).1.temps.length (⟨none, 0, none, 0, none, 0⟩ : NS).ct, .slice (⟨none, 0, none, 0, none, 0⟩ : NS).pk (plainT T s).1.kids.length (⟨none, 0, none, 0, none, 0⟩ : NS).ck] 25 (0, 0) := by
 have key : ∀ (k n : Int) (t : ByteArray), InI k → InI n → t.size ≤ big63 → ∀ r : NodT × Bool × PSt, r.1 = .node k t n [] [] [] → (∀ (W : World) (D : Nat → Prop), IsNd W D r.1 ⟨none, 0, none, 0, none, 0⟩) ∧ (Obj.cells #[.int .i64 r.1.kind, .string r.1.text, .int .i64 r.1.num, .slice none 0 0, .slice none 0 0, .slice none 0 0] 25 (0, 0)) = Obj.cells #[.int .i64 r.1.kind, .string r.1.text, .int .i64 r.1.num, .slice (⟨none, 0, none, 0, none, 0⟩ : NS).pn r.1.names.length (⟨none, 0, none, 0, none, 0⟩ : NS).cn, .slice (⟨none, 0, none, 0, none, 0⟩ : NS).pt r.1.temps.length (⟨none, 0, none, 0, none, 0⟩ : NS).ct, .slice (⟨none, 0, none, 0, none, 0⟩ : NS).pk r.1.kids.length (⟨none, 0, none, 0, none, 0⟩ : NS).ck] 25 (0, 0) := fun k n t h1 h2 h3 r e => by
  rw [e]
  exact ⟨fun W D => IsNd.leaf W D h1 h2 h3, rfl⟩
 have hnum : ∀ (s : PSt) (k : Nat), InI (ahd T s k).num := fun s k => hok.num _ (ahd_mem hok)
 have htx : (tx (ahd T s 0)).size ≤ big63 := tx_size hok rfl
 have h0 : InI 0 := ⟨by decide, by decide⟩
 have he : eB.size ≤ big63 := by decide
 have hw : ∀ x : Int, InI (wrp x) := fun x => by unfold InI wrp Go.RowKit.wrap64; omega
 unfold plainT
 split
 ·exact key _ _ _ ⟨by decide, by decide⟩ (hw _) he _ rfl
 ·split
  ·exact key _ _ _ ⟨by decide, by decide⟩ (hnum _ _) he _ rfl
  ·split
   ·exact key _ _ _ ⟨by decide, by decide⟩ h0 htx _ rfl
   ·split
    ·exact key _ _ _ ⟨by decide, by decide⟩ h0 htx _ rfl
    ·exact key _ _ _ h0 h0 he _ rfl
set_option maxRecDepth 100000 in
set_option maxHeartbeats 16000000 in
theorem lits_go {f : Nat} {w : World} {pb : Nat} {v : Value} {T : Tks} {s : PSt} (hp : PSpec T f) (h : PW w pb v T s) (hok : TokOk T) (hi : s.i < T.length) (hfu : 8 * (T.length - s.i) + 0 < f + 1) : Calls Try.prog 49 #[.pointer (some ⟨pb, 0, none⟩)] w (NdP (fun _ => False) pb v T (litsS T (rcF T f) s) w) := by
 have HOK := Lib.hid hok
 have HI : Hid (s.i ≤ T.length) := Lib.hid (Nat.le_of_lt hi)
 have HFU : Hid (8 * (T.length - s.i) + 0 < f + 1 ∧ s.i < T.length) := Lib.hid ⟨hfu, hi⟩
 have H0 : Hid (Mw w ((w.alloc (.cells #[.int .i64 0, .string eB, .int .i64 0, .slice none 0 0, .slice none 0 0, .slice none 0 0] 25)).alloc (.cells #[.int .i64 4, .string eB, .int .i64 0, .slice none 0 0, .slice none 0 0, .slice none 0 0] 25)) (dOut w (w.heap.size + 1)) (w.heap.size + 1) pb v T s 4 eB (.slice none 0 0) []) := Lib.hid (by
  have hb : Below w.heap.size w ((w.alloc (.cells #[.int .i64 0, .string eB, .int .i64 0, .slice none 0 0, .slice none 0 0, .slice none 0 0] 25)).alloc (.cells #[.int .i64 4, .string eB, .int .i64 0, .slice none 0 0, .slice none 0 0, .slice none 0 0] 25)) := bel
  have h1 := heap_alloc_new w (.cells #[.int .i64 0, .string eB, .int .i64 0, .slice none 0 0, .slice none 0 0, .slice none 0 0] 25)
  have h2 := heap_alloc_new (w.alloc (.cells #[.int .i64 0, .string eB, .int .i64 0, .slice none 0 0, .slice none 0 0, .slice none 0 0] 25)) (.cells #[.int .i64 4, .string eB, .int .i64 0, .slice none 0 0, .slice none 0 0, .slice none 0 0] 25)
  rw [World.size_alloc] at h2
  exact ⟨⟨h.below hb, Turns.of_below hb⟩, Nat.lt_succ_self _, lt_of_block h.box, fun k e => (World.ownsRow.lt h.row k e).2, ((Below.refl _ _).alloc (Nat.le_refl _) _ |>.block _ (lt_of_block h1)).trans h1, h2, NdRow.nil _ _ _, fun _ z => z⟩)
 obtain ⟨⟨bo, so⟩, ho⟩ : ∃ r, openT T s = r := ⟨_, rfl⟩
 have HO := Lib.hid ho
 have hog := open_go (T := T) hi
 rw [ho] at hog
 have HOP : Hid (so.i = s.i + 1 ∧ (bo = false → so.e ≠ 0)) := Lib.hid hog.2
 obtain ⟨RR, hrr⟩ : ∃ r, (if bo then litsL T (rcF T f) (T.length + 1) [] so else ([], so)) = r := ⟨_, rfl⟩
 have HRR := Lib.hid hrr
 have HE0 : Hid (litsS T (rcF T f) s = (.node 4 eB 0 [] [] RR.1, if RR.2.e = 0 then shutT (takeT RR.2) else RR.2)) := Lib.hid (by
  unfold litsS
  rw [ho]
  dsimp only
  rw [hrr])
 clear h hok hi hfu ho hog hrr
 go_enter Try.func49, Try.ntmps49
 go_upto_region 2 with fail
 have hm9 := H0.out
 obtain ⟨w1, hw1⟩ : ∃ w1, ((w.alloc (.cells #[.int .i64 0, .string eB, .int .i64 0, .slice none 0 0, .slice none 0 0, .slice none 0 0] 25)).alloc (.cells #[.int .i64 4, .string eB, .int .i64 0, .slice none 0 0, .slice none 0 0, .slice none 0 0] 25)) = w1 := ⟨_, rfl⟩
 rw [hw1] at hm9 ⊢
 have HM := Lib.hid hm9
 clear hw1 H0 hm9
 go_upto_region 3 with (first | (go_at_call 50; (with_reducible refine (open_any (HM.out.pt.1.below bel) HOK.out HI.out).mono ?_); rw [HO.out]; rintro e w3 ⟨rfl, hx⟩; have hm9 := HM.out.go bel hx; clear HM; have HM := Lib.hid hm9; (try clear n0 nr0 n1 nr1 n2 nr2 n3 nr3 n4 nr4 n5 nr5); (try clear o0 or0 o1 or1 o2 or2 o3 or3 o4 or4 o5 or5); obtain ⟨n0, n1, n2, n3, n4, n5, nr0, nr1, nr2, nr3, nr4, nr5⟩ := cf6 (hm9.res); obtain ⟨o0, o1, o2, o3, o4, o5, or0, or1, or2, or3, or4, or5⟩ := cf6 (hm9.out); clear hm9 hx))
 go_wp2_with fail
 go_loopg [] (T.length + 1) (fun g wr => ∃ (A : Option Addr) (n c : Nat) (ps : List NP) (sk : PSt), Mw w wr (dOut w (w.heap.size + 1)) (w.heap.size + 1) pb v T sk 4 eB (.slice A n c) ps ∧ sk.i ≤ T.length ∧ (bo = true → RR = litsL T (rcF T f) g (ps.map Prod.fst) sk) ∧ (bo = false → RR = (ps.map Prod.fst, sk) ∧ sk.e ≠ 0) ∧ (bo = true → sk.e = 0 → T.length < g + sk.i ∧ ps.length ≤ sk.i) ∧ s.i + 1 ≤ sk.i)
 case atStart => exact ⟨none, 0, 0, [], so, HM.out, by have := HOP.out.1; have := HFU.out.2; omega, fun z => by have h9 := HRR.out; rw [if_pos z] at h9; exact h9.symm, fun z => ⟨by have h9 := HRR.out; rw [if_neg (by rw [z]; decide)] at h9; exact h9.symm, HOP.out.2 z⟩, fun _ _ => ⟨by omega, Nat.zero_le _⟩, by rw [HOP.out.1]; exact Nat.le_refl _⟩
 case round =>
  obtain ⟨A, n, c, ps, sk, hm9, hil, hrt, hrf, hgp, hmo⟩ := hrel
  clear HM
  (try clear n0 nr0 n1 nr1 n2 nr2 n3 nr3 n4 nr4 n5 nr5)
  (try clear o0 or0 o1 or1 o2 or2 o3 or3 o4 or4 o5 or5)
  have HM := Lib.hid hm9
  have HIL := Lib.hid hil
  have HRT := Lib.hid hrt
  have HRF := Lib.hid hrf
  have HGP := Lib.hid hgp
  have HMO := Lib.hid hmo
  obtain ⟨t, ht⟩ : ∃ t, ahd T sk 0 = t := ⟨_, rfl⟩
  have HT := Lib.hid ht
  obtain ⟨br, hbr⟩ : ∃ b, isT T sk 10 bRap = b := ⟨_, rfl⟩
  have HBR := Lib.hid hbr
  have k3 : wr.cell? ⟨pb, 3, none⟩ = some (.int .i64 sk.e) := hm9.pt.1.cell rfl
  obtain ⟨n0, n1, n2, n3, n4, n5, nr0, nr1, nr2, nr3, nr4, nr5⟩ := cf6 (hm9.res)
  obtain ⟨o0, o1, o2, o3, o4, o5, or0, or1, or2, or3, or4, or5⟩ := cf6 (hm9.out)
  clear hm9 hil hrt hrf hgp hmo ht hbr
  cases bo with
  | false =>
   have HR9 := Lib.hid (HRF.out rfl)
   have HE : Hid (litsS T (rcF T f) s = (.node 4 eB 0 [] [] (ps.map Prod.fst), sk)) := Lib.hid (by
    rw [HE0.out, HR9.out.1]
    dsimp only
    rw [if_neg HR9.out.2])
   have y1 : (sk.e == 0) = false := by have h := HR9.out.2; simpa using h
   go_wp2_with fail
   obtain ⟨W9, hW9⟩ : ∃ W9, W9 = ((((((wr.setCell ⟨w.heap.size, 0, none⟩ (.int .i64 4)).setCell ⟨w.heap.size, 1, none⟩ (.string eB)).setCell ⟨w.heap.size, 2, none⟩ (.int .i64 0)).setCell ⟨w.heap.size, 3, none⟩ (.slice none 0 0)).setCell ⟨w.heap.size, 4, none⟩ (.slice none 0 0)).setCell ⟨w.heap.size, 5, none⟩ (.slice A n c)) := ⟨_, rfl⟩
   have h9 : W9.heap[w.heap.size]? = some (.cells #[.int .i64 4, .string eB, .int .i64 0, .slice none 0 0, .slice none 0 0, .slice A n c] 25 (0, 0)) := by rw [hW9]; exact agg_set6 HM.out.res
   obtain ⟨z0, z1, z2, z3, z4, z5⟩ := cc6 h9
   have HT9 : Hid (Turns (fun k => k = w.heap.size) wr W9) := Lib.hid (by rw [hW9]; exact six_turns (T := fun k => k = w.heap.size) (Turns.refl _ _) (w.heap.size) rfl)
   rw [← hW9]
   clear hW9 h9
   refine bodyPost_ret (v := .agg #[.int .i64 4, .string eB, .int .i64 0, .slice none 0 0, .slice none 0 0, .slice A n c]) (by simp [results, Try.results49, go_sem, z0, z1, z2, z3, z4, z5]) rfl ?_
   rw [HE.out]
   refine ⟨⟨none, 0, none, 0, A, c⟩, ?_, HM.out.fin HT9.out, (HM.out.node HT9.out ⟨by decide, by decide⟩ ⟨by decide, by decide⟩ (by decide)).more (fun b z _ => .inr z)⟩
   show Ending.returned (.agg #[.int .i64 4, .string eB, .int .i64 0, .slice none 0 0, .slice none 0 0, .slice A n c]) = Ending.returned (.agg #[.int .i64 4, .string eB, .int .i64 0, .slice none 0 0, .slice none 0 0, .slice A (ps.map Prod.fst).length c])
   rw [List.length_map, HM.out.len.1]
  | true =>
   have HGP2 := Lib.hid (HGP.out rfl)
   have HRT2 := Lib.hid (HRT.out rfl)
   clear HGP HRT HRF
   by_cases he : sk.e = 0
   ·have HS0 := Lib.hid he
    rw [he] at k3
    clear he
    have HB0 : Hid (0 < gk) := Lib.hid (by have := (HGP2.out HS0.out).1; have := HIL.out; omega)
    cases br with
    | true =>
     have HR9 : Hid (RR = (ps.map Prod.fst, sk)) := Lib.hid (by
      rw [HRT2.out]
      cases gk with
      | zero => rfl
      | succ g => rw [litsL, if_neg (by rw [HS0.out, HBR.out]; simp)])
     have HE : Hid (litsS T (rcF T f) s = (.node 4 eB 0 [] [] (ps.map Prod.fst), shutT (takeT sk))) := Lib.hid (by
      rw [HE0.out, HR9.out]
      dsimp only
      rw [if_pos HS0.out])
     have HLT := Lib.hid (isT_lt HBR.out HOK.out (by decide))
     go_upto_region 10 with (first | (go_at_call 22; (with_reducible refine (is_at HM.out.pt.1.pt bel HOK.out 10 bRap).mono ?_); rw [HBR.out]; rintro e w4 ⟨rfl, hx⟩; have hm9 := HM.out.go bel hx; clear HM; have HM := Lib.hid hm9; (try clear n0 nr0 n1 nr1 n2 nr2 n3 nr3 n4 nr4 n5 nr5); (try clear o0 or0 o1 or1 o2 or2 o3 or3 o4 or4 o5 or5); obtain ⟨n0, n1, n2, n3, n4, n5, nr0, nr1, nr2, nr3, nr4, nr5⟩ := cf6 (hm9.res); obtain ⟨o0, o1, o2, o3, o4, o5, or0, or1, or2, or3, or4, or5⟩ := cf6 (hm9.out); clear hm9 hx))
     have k3 : w4.cell? ⟨pb, 3, none⟩ = some (.int .i64 0) := by have h9 := HM.out.pt.1.cell (k := 3) rfl; rw [HS0.out] at h9; exact h9
     go_upto_region 12 with (first | (go_at_call 23; (with_reducible refine (take_any (HM.out.pt.1.below bel) HOK.out HIL.out HT.out).mono ?_); rintro e w5 ⟨rfl, hx⟩; have hm9 := HM.out.go bel hx; clear HM; have HM := Lib.hid hm9; (try clear n0 nr0 n1 nr1 n2 nr2 n3 nr3 n4 nr4 n5 nr5); (try clear o0 or0 o1 or1 o2 or2 o3 or3 o4 or4 o5 or5); obtain ⟨n0, n1, n2, n3, n4, n5, nr0, nr1, nr2, nr3, nr4, nr5⟩ := cf6 (hm9.res); obtain ⟨o0, o1, o2, o3, o4, o5, or0, or1, or2, or3, or4, or5⟩ := cf6 (hm9.out); clear hm9 hx))
     have k2 : w5.cell? ⟨pb, 2, none⟩ = some (.int .i64 (takeT sk).deep) := HM.out.pt.1.cell rfl
     have f2 := HM.out.pt.1.free 2
     go_upto_region 13 with fail
     have hm9 := HM.out.go (Below.refl _ _) (HM.out.pt.1.put (s' := shutT (takeT sk)) 2 (.int .i64 (Go.RowKit.wrap64 ((takeT sk).deep - 1))) rfl HM.out.pt.1.le)
     obtain ⟨w6, hw9⟩ : ∃ wt, w5.setCell ⟨pb, 2, none⟩ (.int .i64 (Go.RowKit.wrap64 ((takeT sk).deep - 1))) = wt := ⟨_, rfl⟩
     rw [hw9] at hm9 ⊢
     clear HM hw9
     have HM := Lib.hid hm9
     (try clear n0 nr0 n1 nr1 n2 nr2 n3 nr3 n4 nr4 n5 nr5)
     (try clear o0 or0 o1 or1 o2 or2 o3 or3 o4 or4 o5 or5)
     obtain ⟨n0, n1, n2, n3, n4, n5, nr0, nr1, nr2, nr3, nr4, nr5⟩ := cf6 (hm9.res)
     obtain ⟨o0, o1, o2, o3, o4, o5, or0, or1, or2, or3, or4, or5⟩ := cf6 (hm9.out)
     clear hm9
     go_wp2_with fail
     obtain ⟨W9, hW9⟩ : ∃ W9, W9 = ((((((w6.setCell ⟨w.heap.size, 0, none⟩ (.int .i64 4)).setCell ⟨w.heap.size, 1, none⟩ (.string eB)).setCell ⟨w.heap.size, 2, none⟩ (.int .i64 0)).setCell ⟨w.heap.size, 3, none⟩ (.slice none 0 0)).setCell ⟨w.heap.size, 4, none⟩ (.slice none 0 0)).setCell ⟨w.heap.size, 5, none⟩ (.slice A n c)) := ⟨_, rfl⟩
     have h9 : W9.heap[w.heap.size]? = some (.cells #[.int .i64 4, .string eB, .int .i64 0, .slice none 0 0, .slice none 0 0, .slice A n c] 25 (0, 0)) := by rw [hW9]; exact agg_set6 HM.out.res
     obtain ⟨z0, z1, z2, z3, z4, z5⟩ := cc6 h9
     have HT9 : Hid (Turns (fun k => k = w.heap.size) w6 W9) := Lib.hid (by rw [hW9]; exact six_turns (T := fun k => k = w.heap.size) (Turns.refl _ _) (w.heap.size) rfl)
     rw [← hW9]
     clear hW9 h9
     refine bodyPost_ret (v := .agg #[.int .i64 4, .string eB, .int .i64 0, .slice none 0 0, .slice none 0 0, .slice A n c]) (by simp [results, Try.results49, go_sem, z0, z1, z2, z3, z4, z5]) rfl ?_
     rw [HE.out]
     refine ⟨⟨none, 0, none, 0, A, c⟩, ?_, HM.out.fin HT9.out, (HM.out.node HT9.out ⟨by decide, by decide⟩ ⟨by decide, by decide⟩ (by decide)).more (fun b z _ => .inr z)⟩
     show Ending.returned (.agg #[.int .i64 4, .string eB, .int .i64 0, .slice none 0 0, .slice none 0 0, .slice A n c]) = Ending.returned (.agg #[.int .i64 4, .string eB, .int .i64 0, .slice none 0 0, .slice none 0 0, .slice A (ps.map Prod.fst).length c])
     rw [List.length_map, HM.out.len.1]
    | false =>
     have HPB : Hid (ps.length ≤ 1000000) := Lib.hid (by have := (HGP2.out HS0.out).2; have := HIL.out; have := HOK.out.len; omega)
     obtain ⟨⟨x, b, s3⟩, hpn⟩ : ∃ r, plainT T sk = r := ⟨_, rfl⟩
     have HPN := Lib.hid hpn
     have hlf := plain_leaf' HOK.out sk
     rw [hpn] at hlf
     have HLF : Hid (∀ (W : World) (D : Nat → Prop), IsNd W D x ⟨none, 0, none, 0, none, 0⟩) := Lib.hid hlf.1
     have HLF2 : Hid (Obj.cells #[.int .i64 x.kind, .string x.text, .int .i64 x.num, .slice none 0 0, .slice none 0 0, .slice none 0 0] 25 (0, 0) = Obj.cells #[.int .i64 x.kind, .string x.text, .int .i64 x.num, .slice (⟨none, 0, none, 0, none, 0⟩ : NS).pn x.names.length (⟨none, 0, none, 0, none, 0⟩ : NS).cn, .slice (⟨none, 0, none, 0, none, 0⟩ : NS).pt x.temps.length (⟨none, 0, none, 0, none, 0⟩ : NS).ct, .slice (⟨none, 0, none, 0, none, 0⟩ : NS).pk x.kids.length (⟨none, 0, none, 0, none, 0⟩ : NS).ck] 25 (0, 0)) := Lib.hid hlf.2
     obtain ⟨⟨y, s2⟩, hyy⟩ : ∃ r, litOne T (rcF T f) sk = r := ⟨_, rfl⟩
     have HLY := Lib.hid hyy
     have hgp := litOne_gp HOK.out.at0 (rcF_go HOK.out.at0 f) sk
     rw [hyy] at hgp
     have HGY : Hid (s2.i ≤ T.length ∧ sk.i ≤ s2.i ∧ (s2.e = 0 → sk.i < s2.i)) := Lib.hid ⟨hgp.1.go.top HIL.out, hgp.1.go.le, fun z => (hgp.2 z).1⟩
     clear hpn hlf hyy hgp
     have HSI := Lib.hid ((plain_go HOK.out.at0 sk).2.2.1)
     go_upto_region 5 with (first | (go_at_call 22; (with_reducible refine (is_at HM.out.pt.1.pt bel HOK.out 10 bRap).mono ?_); rw [HBR.out]; rintro e w4 ⟨rfl, hx⟩; have hm9 := HM.out.go bel hx; clear HM; have HM := Lib.hid hm9; (try clear n0 nr0 n1 nr1 n2 nr2 n3 nr3 n4 nr4 n5 nr5); (try clear o0 or0 o1 or1 o2 or2 o3 or3 o4 or4 o5 or5); obtain ⟨n0, n1, n2, n3, n4, n5, nr0, nr1, nr2, nr3, nr4, nr5⟩ := cf6 (hm9.res); obtain ⟨o0, o1, o2, o3, o4, o5, or0, or1, or2, or3, or4, or5⟩ := cf6 (hm9.out); clear hm9 hx) | (go_at_call 48; (with_reducible refine (plain7_any (HM.out.pt.1.below bel) HOK.out HIL.out).mono ?_); rw [HPN.out]; rintro e wp ⟨rfl, hx⟩; have hm9 := HM.out.go bel hx; clear HM; have HM := Lib.hid hm9; (try clear n0 nr0 n1 nr1 n2 nr2 n3 nr3 n4 nr4 n5 nr5); (try clear o0 or0 o1 or1 o2 or2 o3 or3 o4 or4 o5 or5); obtain ⟨n0, n1, n2, n3, n4, n5, nr0, nr1, nr2, nr3, nr4, nr5⟩ := cf6 (hm9.res); obtain ⟨o0, o1, o2, o3, o4, o5, or0, or1, or2, or3, or4, or5⟩ := cf6 (hm9.out); clear hm9 hx))
     have hal := (Below.refl wp.heap.size wp).alloc (Nat.le_refl _) (.cells #[.int .i64 x.kind, .string x.text, .int .i64 x.num, .slice none 0 0, .slice none 0 0, .slice none 0 0] 25)
     have h7 := heap_alloc_new wp (.cells #[.int .i64 x.kind, .string x.text, .int .i64 x.num, .slice none 0 0, .slice none 0 0, .slice none 0 0] 25)
     have hfr := HM.out.fresh
     have hm9 := (HM.out.apart wp.heap.size (Nat.le_refl _)).below hal
     have hnx : pb < wp.heap.size := by have h9 := HM.out.pl; have h8 := lt_of_block HM.out.res; omega
     have hs7 : (wp.alloc (.cells #[.int .i64 x.kind, .string x.text, .int .i64 x.num, .slice none 0 0, .slice none 0 0, .slice none 0 0] 25)).heap.size = wp.heap.size + 1 := World.size_alloc _ _
     obtain ⟨nx, hnxe⟩ : ∃ nx, wp.heap.size = nx := ⟨_, rfl⟩
     rw [hnxe] at h7 hm9 hfr hnx hs7 ⊢
     obtain ⟨wq, hw9⟩ : ∃ wt, wp.alloc (.cells #[.int .i64 x.kind, .string x.text, .int .i64 x.num, .slice none 0 0, .slice none 0 0, .slice none 0 0] 25) = wt := ⟨_, rfl⟩
     rw [hw9] at h7 hm9 hs7 ⊢
     clear HM hw9
     have HM := Lib.hid hm9
     (try clear n0 nr0 n1 nr1 n2 nr2 n3 nr3 n4 nr4 n5 nr5)
     (try clear o0 or0 o1 or1 o2 or2 o3 or3 o4 or4 o5 or5)
     obtain ⟨n0, n1, n2, n3, n4, n5, nr0, nr1, nr2, nr3, nr4, nr5⟩ := cf6 (hm9.res)
     obtain ⟨o0, o1, o2, o3, o4, o5, or0, or1, or2, or3, or4, or5⟩ := cf6 (hm9.out)
     have HFR := Lib.hid hfr
     have HNX : Hid (pb < nx ∧ w.heap.size < nx) := Lib.hid ⟨hnx, (hfr nx (Nat.le_refl _)).1.1⟩
     have HWQ : Hid (wq.heap.size = nx + 1) := Lib.hid hs7
     have HXB := Lib.hid h7
     obtain ⟨m0, m1, m2, m3, m4, m5, mr0, mr1, mr2, mr3, mr4, mr5⟩ := cf6 (h7)
     clear hal h7 hfr hm9 hnx hnxe hs7
     go_upto_if 29 with fail
     go_cut [] from 10 to 47 (fun wx => ∃ (qy : NS), Mw w wx (fun b => dOut w (w.heap.size + 1) b ∧ b ≠ nx) (w.heap.size + 1) pb v T s2 4 eB (.slice A n c) ps ∧ wx.heap[nx]? = some (.cells #[.int .i64 y.kind, .string y.text, .int .i64 y.num, .slice qy.pn y.names.length qy.cn, .slice qy.pt y.temps.length qy.ct, .slice qy.pk y.kids.length qy.ck] 25 (0, 0)) ∧ IsNd wx (fun b => (dOut w (w.heap.size + 1) b ∧ b ≠ nx) ∧ Value.ownBlock (.slice A n c) ≠ some b) y qy)
     case first =>
      cases b with
      | true =>
       have HYX : Hid (y = x ∧ s2 = s3) := Lib.hid (by
        have h := HLY.out
        unfold litOne at h
        rw [HPN.out] at h
        dsimp only at h
        rw [if_pos rfl] at h
        cases h; exact ⟨rfl, rfl⟩)
       go_wp2_with fail
       go_meet
       have ey : y = x := HYX.out.1
       have es : s2 = s3 := HYX.out.2
       rw [ey, es]
       exact ⟨⟨none, 0, none, 0, none, 0⟩, HM.out, by rw [← HLF2.out]; exact HXB.out, HLF.out _ _⟩
      | false =>
       obtain ⟨ex0, es0⟩ := HSI.out (by rw [HPN.out])
       have es : s3 = sk := by rw [HPN.out] at es0; exact es0
       have ex : x = nd0 := by rw [HPN.out] at ex0; exact ex0
       subst es
       obtain ⟨t, ht⟩ : ∃ t, ahd T s3 0 = t := ⟨_, rfl⟩
       have HT := Lib.hid ht
       obtain ⟨b7, hb7⟩ : ∃ b, isT T s3 7 eB = b := ⟨_, rfl⟩
       have HB7 := Lib.hid hb7
       obtain ⟨bp, hbp⟩ : ∃ b, isT T s3 10 bPar = b := ⟨_, rfl⟩
       have HBP := Lib.hid hbp
       have HLZ : Hid ((y, s2) = if b7 || bp then (rcF T f).lits s3 else (nd0, failT s3 t 13)) := Lib.hid (by
        have h := HLY.out
        unfold litOne at h
        rw [HPN.out] at h
        dsimp only at h
        rw [if_neg (by decide), hb7, hbp, ht] at h
        exact h.symm)
       clear ex0 es0 ht hb7 hbp
       cases b7 with
       | true =>
        have HLT := Lib.hid (isT_lt HB7.out HOK.out (by decide))
        have HF5 : Hid (8 * (T.length - s3.i) + 0 < f) := Lib.hid (by have := HFU.out; have := HMO.out; have := HLT.out; omega)
        have HR0 : Hid ((rcF T f).lits s3 = (y, s2)) := Lib.hid (by have h := HLZ.out; rw [Bool.true_or, if_pos rfl] at h; exact h.symm)
        go_wp2_with (first | (go_at_call 22; (with_reducible refine (is_at HM.out.pt.1.pt bel HOK.out 7 eB).mono ?_); rw [HB7.out]; rintro e w5 ⟨rfl, hx⟩; have xb9 := PT.keepB bel hx HXB.out (by have := HNX.out; omega); clear HXB; have HXB := Lib.hid xb9; (try clear m0 mr0 m1 mr1 m2 mr2 m3 mr3 m4 mr4 m5 mr5); obtain ⟨m0, m1, m2, m3, m4, m5, mr0, mr1, mr2, mr3, mr4, mr5⟩ := cf6 (xb9); clear xb9; have hm9 := HM.out.go bel hx; clear HM; have HM := Lib.hid hm9; (try clear n0 nr0 n1 nr1 n2 nr2 n3 nr3 n4 nr4 n5 nr5); (try clear o0 or0 o1 or1 o2 or2 o3 or3 o4 or4 o5 or5); obtain ⟨n0, n1, n2, n3, n4, n5, nr0, nr1, nr2, nr3, nr4, nr5⟩ := cf6 (hm9.res); obtain ⟨o0, o1, o2, o3, o4, o5, or0, or1, or2, or3, or4, or5⟩ := cf6 (hm9.out); clear hm9 hx) | (go_at_call 49; (with_reducible refine (hp.lits (HM.out.pt.1.below bel) HLT.out HF5.out).mono ?_); rw [HR0.out]; rintro e wl ⟨qy, rfl, hx, hny⟩; unfold ndV; have HNY := Lib.hid (hny.more (D' := (fun b => (dOut w (w.heap.size + 1) b ∧ b ≠ nx) ∧ Value.ownBlock (.slice A n c) ≠ some b)) (fun b z _ => z.elim False.elim (fun z => by have h1 := HM.out.fresh b z; have h3 := lt_of_block HXB.out; exact ⟨⟨h1.1, by omega⟩, h1.2⟩))); clear hny; have xb9 := PT.keepB bel hx HXB.out (by have := HNX.out; omega); clear HXB; have HXB := Lib.hid xb9; (try clear m0 mr0 m1 mr1 m2 mr2 m3 mr3 m4 mr4 m5 mr5); obtain ⟨m0, m1, m2, m3, m4, m5, mr0, mr1, mr2, mr3, mr4, mr5⟩ := cf6 (xb9); clear xb9; have hm9 := HM.out.go bel hx; clear HM; have HM := Lib.hid hm9; (try clear n0 nr0 n1 nr1 n2 nr2 n3 nr3 n4 nr4 n5 nr5); (try clear o0 or0 o1 or1 o2 or2 o3 or3 o4 or4 o5 or5); obtain ⟨n0, n1, n2, n3, n4, n5, nr0, nr1, nr2, nr3, nr4, nr5⟩ := cf6 (hm9.res); obtain ⟨o0, o1, o2, o3, o4, o5, or0, or1, or2, or3, or4, or5⟩ := cf6 (hm9.out); clear hm9 hx))
        go_meet
        have hT9 : Turns (fun k => k = nx) wl ((((((wl.setCell ⟨nx, 0, none⟩ (.int .i64 y.kind)).setCell ⟨nx, 1, none⟩ (.string y.text)).setCell ⟨nx, 2, none⟩ (.int .i64 y.num)).setCell ⟨nx, 3, none⟩ (.slice qy.pn y.names.length qy.cn)).setCell ⟨nx, 4, none⟩ (.slice qy.pt y.temps.length qy.ct)).setCell ⟨nx, 5, none⟩ (.slice qy.pk y.kids.length qy.ck)) := six_turns (T := fun k => k = nx) (Turns.refl _ _) nx rfl
        have hm9 := HM.out.turned hT9 (fun k e => by have e9 : k = nx := e; have h7 := HFR.out k (by omega); exact ⟨h7.1, h7.2, fun z => z.2 e9⟩)
        exact ⟨qy, hm9, agg_set6 HXB.out, HNY.out.turns hT9 (fun b z _ e => z.1.2 e) (fun _ z => z)⟩
       | false =>
        cases bp with
        | true =>
         have HLT := Lib.hid (isT_lt HBP.out HOK.out (by decide))
         have HF5 : Hid (8 * (T.length - s3.i) + 0 < f) := Lib.hid (by have := HFU.out; have := HMO.out; have := HLT.out; omega)
         have HR0 : Hid ((rcF T f).lits s3 = (y, s2)) := Lib.hid (by have h := HLZ.out; rw [Bool.false_or, if_pos rfl] at h; exact h.symm)
         go_wp2_with (first | (go_at_call 22; (with_reducible refine (is_at HM.out.pt.1.pt bel HOK.out 7 eB).mono ?_); rw [HB7.out]; rintro e w5 ⟨rfl, hx⟩; have xb9 := PT.keepB bel hx HXB.out (by have := HNX.out; omega); clear HXB; have HXB := Lib.hid xb9; (try clear m0 mr0 m1 mr1 m2 mr2 m3 mr3 m4 mr4 m5 mr5); obtain ⟨m0, m1, m2, m3, m4, m5, mr0, mr1, mr2, mr3, mr4, mr5⟩ := cf6 (xb9); clear xb9; have hm9 := HM.out.go bel hx; clear HM; have HM := Lib.hid hm9; (try clear n0 nr0 n1 nr1 n2 nr2 n3 nr3 n4 nr4 n5 nr5); (try clear o0 or0 o1 or1 o2 or2 o3 or3 o4 or4 o5 or5); obtain ⟨n0, n1, n2, n3, n4, n5, nr0, nr1, nr2, nr3, nr4, nr5⟩ := cf6 (hm9.res); obtain ⟨o0, o1, o2, o3, o4, o5, or0, or1, or2, or3, or4, or5⟩ := cf6 (hm9.out); clear hm9 hx) | (go_at_call 22; (with_reducible refine (is_at HM.out.pt.1.pt bel HOK.out 10 bPar).mono ?_); rw [HBP.out]; rintro e w6 ⟨rfl, hx⟩; have xb9 := PT.keepB bel hx HXB.out (by have := HNX.out; omega); clear HXB; have HXB := Lib.hid xb9; (try clear m0 mr0 m1 mr1 m2 mr2 m3 mr3 m4 mr4 m5 mr5); obtain ⟨m0, m1, m2, m3, m4, m5, mr0, mr1, mr2, mr3, mr4, mr5⟩ := cf6 (xb9); clear xb9; have hm9 := HM.out.go bel hx; clear HM; have HM := Lib.hid hm9; (try clear n0 nr0 n1 nr1 n2 nr2 n3 nr3 n4 nr4 n5 nr5); (try clear o0 or0 o1 or1 o2 or2 o3 or3 o4 or4 o5 or5); obtain ⟨n0, n1, n2, n3, n4, n5, nr0, nr1, nr2, nr3, nr4, nr5⟩ := cf6 (hm9.res); obtain ⟨o0, o1, o2, o3, o4, o5, or0, or1, or2, or3, or4, or5⟩ := cf6 (hm9.out); clear hm9 hx) | (go_at_call 49; (with_reducible refine (hp.lits (HM.out.pt.1.below bel) HLT.out HF5.out).mono ?_); rw [HR0.out]; rintro e wl ⟨qy, rfl, hx, hny⟩; unfold ndV; have HNY := Lib.hid (hny.more (D' := (fun b => (dOut w (w.heap.size + 1) b ∧ b ≠ nx) ∧ Value.ownBlock (.slice A n c) ≠ some b)) (fun b z _ => z.elim False.elim (fun z => by have h1 := HM.out.fresh b z; have h3 := lt_of_block HXB.out; exact ⟨⟨h1.1, by omega⟩, h1.2⟩))); clear hny; have xb9 := PT.keepB bel hx HXB.out (by have := HNX.out; omega); clear HXB; have HXB := Lib.hid xb9; (try clear m0 mr0 m1 mr1 m2 mr2 m3 mr3 m4 mr4 m5 mr5); obtain ⟨m0, m1, m2, m3, m4, m5, mr0, mr1, mr2, mr3, mr4, mr5⟩ := cf6 (xb9); clear xb9; have hm9 := HM.out.go bel hx; clear HM; have HM := Lib.hid hm9; (try clear n0 nr0 n1 nr1 n2 nr2 n3 nr3 n4 nr4 n5 nr5); (try clear o0 or0 o1 or1 o2 or2 o3 or3 o4 or4 o5 or5); obtain ⟨n0, n1, n2, n3, n4, n5, nr0, nr1, nr2, nr3, nr4, nr5⟩ := cf6 (hm9.res); obtain ⟨o0, o1, o2, o3, o4, o5, or0, or1, or2, or3, or4, or5⟩ := cf6 (hm9.out); clear hm9 hx))
         go_meet
         have hT9 : Turns (fun k => k = nx) wl ((((((wl.setCell ⟨nx, 0, none⟩ (.int .i64 y.kind)).setCell ⟨nx, 1, none⟩ (.string y.text)).setCell ⟨nx, 2, none⟩ (.int .i64 y.num)).setCell ⟨nx, 3, none⟩ (.slice qy.pn y.names.length qy.cn)).setCell ⟨nx, 4, none⟩ (.slice qy.pt y.temps.length qy.ct)).setCell ⟨nx, 5, none⟩ (.slice qy.pk y.kids.length qy.ck)) := six_turns (T := fun k => k = nx) (Turns.refl _ _) nx rfl
         have hm9 := HM.out.turned hT9 (fun k e => by have e9 : k = nx := e; have h7 := HFR.out k (by omega); exact ⟨h7.1, h7.2, fun z => z.2 e9⟩)
         exact ⟨qy, hm9, agg_set6 HXB.out, HNY.out.turns hT9 (fun b z _ e => z.1.2 e) (fun _ z => z)⟩
        | false =>
         have HYX : Hid (y = x ∧ s2 = failT s3 t 13) := Lib.hid (by
          have h := HLZ.out
          rw [Bool.or_self, if_neg (by decide)] at h
          cases h; exact ⟨ex.symm, rfl⟩)
         go_wp2_with (first | (go_at_call 22; (with_reducible refine (is_at HM.out.pt.1.pt bel HOK.out 7 eB).mono ?_); rw [HB7.out]; rintro e w5 ⟨rfl, hx⟩; have xb9 := PT.keepB bel hx HXB.out (by have := HNX.out; omega); clear HXB; have HXB := Lib.hid xb9; (try clear m0 mr0 m1 mr1 m2 mr2 m3 mr3 m4 mr4 m5 mr5); obtain ⟨m0, m1, m2, m3, m4, m5, mr0, mr1, mr2, mr3, mr4, mr5⟩ := cf6 (xb9); clear xb9; have hm9 := HM.out.go bel hx; clear HM; have HM := Lib.hid hm9; (try clear n0 nr0 n1 nr1 n2 nr2 n3 nr3 n4 nr4 n5 nr5); (try clear o0 or0 o1 or1 o2 or2 o3 or3 o4 or4 o5 or5); obtain ⟨n0, n1, n2, n3, n4, n5, nr0, nr1, nr2, nr3, nr4, nr5⟩ := cf6 (hm9.res); obtain ⟨o0, o1, o2, o3, o4, o5, or0, or1, or2, or3, or4, or5⟩ := cf6 (hm9.out); clear hm9 hx) | (go_at_call 22; (with_reducible refine (is_at HM.out.pt.1.pt bel HOK.out 10 bPar).mono ?_); rw [HBP.out]; rintro e w6 ⟨rfl, hx⟩; have xb9 := PT.keepB bel hx HXB.out (by have := HNX.out; omega); clear HXB; have HXB := Lib.hid xb9; (try clear m0 mr0 m1 mr1 m2 mr2 m3 mr3 m4 mr4 m5 mr5); obtain ⟨m0, m1, m2, m3, m4, m5, mr0, mr1, mr2, mr3, mr4, mr5⟩ := cf6 (xb9); clear xb9; have hm9 := HM.out.go bel hx; clear HM; have HM := Lib.hid hm9; (try clear n0 nr0 n1 nr1 n2 nr2 n3 nr3 n4 nr4 n5 nr5); (try clear o0 or0 o1 or1 o2 or2 o3 or3 o4 or4 o5 or5); obtain ⟨n0, n1, n2, n3, n4, n5, nr0, nr1, nr2, nr3, nr4, nr5⟩ := cf6 (hm9.res); obtain ⟨o0, o1, o2, o3, o4, o5, or0, or1, or2, or3, or4, or5⟩ := cf6 (hm9.out); clear hm9 hx) | (go_at_call 27; (with_reducible refine (ahead0_at HM.out.pt.1.pt bel HOK.out HT.out).mono ?_); rintro e wa ⟨rfl, hx⟩; have xb9 := PT.keepB bel hx HXB.out (by have := HNX.out; omega); clear HXB; have HXB := Lib.hid xb9; (try clear m0 mr0 m1 mr1 m2 mr2 m3 mr3 m4 mr4 m5 mr5); obtain ⟨m0, m1, m2, m3, m4, m5, mr0, mr1, mr2, mr3, mr4, mr5⟩ := cf6 (xb9); clear xb9; have hm9 := HM.out.go bel hx; clear HM; have HM := Lib.hid hm9; (try clear n0 nr0 n1 nr1 n2 nr2 n3 nr3 n4 nr4 n5 nr5); (try clear o0 or0 o1 or1 o2 or2 o3 or3 o4 or4 o5 or5); obtain ⟨n0, n1, n2, n3, n4, n5, nr0, nr1, nr2, nr3, nr4, nr5⟩ := cf6 (hm9.res); obtain ⟨o0, o1, o2, o3, o4, o5, or0, or1, or2, or3, or4, or5⟩ := cf6 (hm9.out); clear hm9 hx) | (go_at_call 25; (with_reducible refine (pfail_any (HM.out.pt.1.below bel) t 13).mono ?_); rintro e wf ⟨rfl, hx⟩; have xb9 := PT.keepB bel hx HXB.out (by have := HNX.out; omega); clear HXB; have HXB := Lib.hid xb9; (try clear m0 mr0 m1 mr1 m2 mr2 m3 mr3 m4 mr4 m5 mr5); obtain ⟨m0, m1, m2, m3, m4, m5, mr0, mr1, mr2, mr3, mr4, mr5⟩ := cf6 (xb9); clear xb9; have hm9 := HM.out.go bel hx; clear HM; have HM := Lib.hid hm9; (try clear n0 nr0 n1 nr1 n2 nr2 n3 nr3 n4 nr4 n5 nr5); (try clear o0 or0 o1 or1 o2 or2 o3 or3 o4 or4 o5 or5); obtain ⟨n0, n1, n2, n3, n4, n5, nr0, nr1, nr2, nr3, nr4, nr5⟩ := cf6 (hm9.res); obtain ⟨o0, o1, o2, o3, o4, o5, or0, or1, or2, or3, or4, or5⟩ := cf6 (hm9.out); clear hm9 hx))
         go_meet
         have ey : y = x := HYX.out.1
         have es : s2 = failT s3 t 13 := HYX.out.2
         rw [ey, es]
         exact ⟨⟨none, 0, none, 0, none, 0⟩, HM.out, by rw [← HLF2.out]; exact HXB.out, HLF.out _ _⟩
     case rest =>
      obtain ⟨qy, hm9, hxb, hny⟩ := hcut
      clear HM HXB
      (try clear m0 mr0 m1 mr1 m2 mr2 m3 mr3 m4 mr4 m5 mr5)
      (try clear n0 nr0 n1 nr1 n2 nr2 n3 nr3 n4 nr4 n5 nr5)
      (try clear o0 or0 o1 or1 o2 or2 o3 or3 o4 or4 o5 or5)
      have HM := Lib.hid hm9
      rename World => we
      have hal := (Below.refl we.heap.size we).alloc (Nat.le_refl _) (.cells #[.int .i64 y.kind, .string y.text, .int .i64 y.num, .slice qy.pn y.names.length qy.cn, .slice qy.pt y.temps.length qy.ct, .slice qy.pk y.kids.length qy.ck] 25)
      have HRW := Lib.hid (hm9.below hal).row
      have HN9 := Lib.hid (hny.under hal)
      have HBS : Hid (w.heap.size + 1 + 1 ≤ (we.alloc (.cells #[.int .i64 y.kind, .string y.text, .int .i64 y.num, .slice qy.pn y.names.length qy.cn, .slice qy.pt y.temps.length qy.ct, .slice qy.pk y.kids.length qy.ck] 25)).heap.size) := Lib.hid (by have h9 := lt_of_block (hm9.below hal).out; omega)
      obtain ⟨m0, m1, m2, m3, m4, m5, mr0, mr1, mr2, mr3, mr4, mr5⟩ := cf6 (hxb)
      obtain ⟨n0, n1, n2, n3, n4, n5, nr0, nr1, nr2, nr3, nr4, nr5⟩ := cf6 (hm9.res)
      obtain ⟨o0, o1, o2, o3, o4, o5, or0, or1, or2, or3, or4, or5⟩ := cf6 (hm9.out)
      obtain ⟨a0, a1, a2, a3, a4, a5, ar0, ar1, ar2, ar3, ar4, ar5⟩ := cf6 ((hm9.below hal).out)
      clear hm9 hxb hny hal
      go_wp2_with (first | (at_builtin; refine wpList_nd1 rfl _ _ rfl rfl HRW.out rfl (heap_alloc_new _ _) HN9.out HPB.out HBS.out ?_; intro v9 w11 hown ht9 _; have HT9A := Lib.hid ht9; have hm10 := HM.out.push ((Below.refl _ _).alloc (Nat.le_refl _) _) hown ht9; have ho9 := HM.out.mid ((Below.refl _ _).alloc (Nat.le_refl _) _) ht9; have b5 : w11.cell? ⟨w.heap.size + 1, 5, none⟩ = some (.slice A n c) := cell_in ho9 rfl; have br5 : w11.frozen? ⟨w.heap.size + 1, 5, none⟩ = false := (by simp [World.frozen?, ho9]); have HM10 := Lib.hid hm10; obtain ⟨A9, c9, hv9, _⟩ := hown.slice; subst hv9; clear hown ht9 hm10 ho9))
      go_roundg (gk - 1)
      case measure => have := (HGP2.out HS0.out).1; have := HIL.out; have := HB0.out; omega
      case rel =>
       have hm9 := HM10.out.relax
       have hl9 : (ps ++ [(y, qy)]).length = ps.length + 1 := by rw [List.length_append]; rfl
       rw [hl9] at hm9
       have hg0 : 0 < gk := HB0.out
       have hul : litsL T (rcF T f) gk (ps.map Prod.fst) sk = litsL T (rcF T f) (gk - 1) ((ps ++ [(y, qy)]).map Prod.fst) s2 := by
        have h9 : gk = (gk - 1) + 1 := by omega
        rw [h9, litsL, if_pos (by rw [HS0.out, HBR.out]; rfl), HLY.out, Nat.add_sub_cancel, List.map_append]
        rfl
       have hA := HGP2.out HS0.out
       have hR := HRT2.out
       exact ⟨A9, ps.length + 1, c9, ps ++ [(y, qy)], s2, hm9, HGY.out.1, fun _ => hR.trans hul, fun z => (by cases z), fun _ z => lit_step hA.1 hg0 (HGY.out.2.2 z) hA.2 hl9, Nat.le_trans HMO.out HGY.out.2.1⟩
   ·have y1 : (sk.e == 0) = false := by simpa using he
    have HY1 := Lib.hid y1
    clear he
    have HR9 : Hid (RR = (ps.map Prod.fst, sk)) := Lib.hid (by
     rw [HRT2.out]
     cases gk with
     | zero => rfl
     | succ g => rw [litsL, if_neg (by rw [HY1.out]; simp)])
    have HE : Hid (litsS T (rcF T f) s = (.node 4 eB 0 [] [] (ps.map Prod.fst), sk)) := Lib.hid (by
     rw [HE0.out, HR9.out]
     dsimp only
     rw [if_neg (by have h := HY1.out; simpa using h)])
    go_wp2_with fail
    obtain ⟨W9, hW9⟩ : ∃ W9, W9 = ((((((wr.setCell ⟨w.heap.size, 0, none⟩ (.int .i64 4)).setCell ⟨w.heap.size, 1, none⟩ (.string eB)).setCell ⟨w.heap.size, 2, none⟩ (.int .i64 0)).setCell ⟨w.heap.size, 3, none⟩ (.slice none 0 0)).setCell ⟨w.heap.size, 4, none⟩ (.slice none 0 0)).setCell ⟨w.heap.size, 5, none⟩ (.slice A n c)) := ⟨_, rfl⟩
    have h9 : W9.heap[w.heap.size]? = some (.cells #[.int .i64 4, .string eB, .int .i64 0, .slice none 0 0, .slice none 0 0, .slice A n c] 25 (0, 0)) := by rw [hW9]; exact agg_set6 HM.out.res
    obtain ⟨z0, z1, z2, z3, z4, z5⟩ := cc6 h9
    have HT9 : Hid (Turns (fun k => k = w.heap.size) wr W9) := Lib.hid (by rw [hW9]; exact six_turns (T := fun k => k = w.heap.size) (Turns.refl _ _) (w.heap.size) rfl)
    rw [← hW9]
    clear hW9 h9
    refine bodyPost_ret (v := .agg #[.int .i64 4, .string eB, .int .i64 0, .slice none 0 0, .slice none 0 0, .slice A n c]) (by simp [results, Try.results49, go_sem, z0, z1, z2, z3, z4, z5]) rfl ?_
    rw [HE.out]
    refine ⟨⟨none, 0, none, 0, A, c⟩, ?_, HM.out.fin HT9.out, (HM.out.node HT9.out ⟨by decide, by decide⟩ ⟨by decide, by decide⟩ (by decide)).more (fun b z _ => .inr z)⟩
    show Ending.returned (.agg #[.int .i64 4, .string eB, .int .i64 0, .slice none 0 0, .slice none 0 0, .slice A n c]) = Ending.returned (.agg #[.int .i64 4, .string eB, .int .i64 0, .slice none 0 0, .slice none 0 0, .slice A (ps.map Prod.fst).length c])
    rw [List.length_map, HM.out.len.1]
end Go.Proofs.Ytnojndgmgkgnpaa

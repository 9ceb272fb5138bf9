/- Chapter 10: the reference's parser: statements. -/
import Derived.Test.YtnojndgmgkgnpaaPJ0
namespace Go.Proofs.Ytnojndgmgkgnpaa
open Go.ChangeShapes Go.WideShapes Go.ChangeAt Go.RowKit Go.Deep Go.Joins Go.Maps
set_option linter.unusedVariables false
set_option linter.unusedSimpArgs false
/-- a row of statements under way -/
structure Sw (w W : World) (pb : Nat) (v : Value) (T : Tks) (s : PSt) (vr : Value) (ps : List NP) : Prop where
 pt : PT pb v T w W s
 pl : pb < w.heap.size
 row : NdRow W w.heap.size (fun b => w.heap.size ≤ b) vr ps
section
variable {w W W1 w' : World} {pb : Nat} {v : Value} {T : Tks} {s s' : PSt} {vr : Value} {ps : List NP}
theorem Sw.own (h : Sw w W pb v T s vr ps) : ∀ k, vr.ownBlock = some k → w.heap.size ≤ k ∧ k < W.heap.size := fun k hk => World.ownsRow.lt h.row.own k hk
theorem Sw.fresh (h : Sw w W pb v T s vr ps) : ∀ b, W.heap.size ≤ b → w.heap.size ≤ b ∧ vr.ownBlock ≠ some b := fun b hb => ⟨Nat.le_trans h.pt.2.size hb, fun e => by have := (h.own b e).2; omega⟩
theorem Sw.below (h : Sw w W pb v T s vr ps) (hb : Below W.heap.size W w') : Sw w w' pb v T s vr ps := ⟨h.pt.below hb, h.pl, h.row.below hb⟩
theorem Sw.go (h : Sw w W pb v T s vr ps) (hb : Below W.heap.size W W1) (hx : PT pb v T W1 w' s') : Sw w w' pb v T s' vr ps :=
 ⟨(h.pt.below hb).go hx, h.pl, PT.keepR h.pt.1 hb hx h.row (fun b z => by have := h.pl; omega)⟩
theorem Sw.push (h : Sw w W pb v T s vr ps) {ps' : List NP} {v' : Value} (hb : Below W.heap.size W W1) (hr : NdRow w' w.heap.size (fun b => w.heap.size ≤ b) v' ps') (ht : Turns (fun k => vr.ownBlock = some k) W1 w') (hv : ∀ k, v.ownBlock = some k → k < w.heap.size) : Sw w w' pb v T s v' ps' :=
 ⟨(h.below hb).pt.turned ht (fun k e => by have := (h.own k e).1; exact ⟨this, by have := h.pl; omega, fun q => by have := hv k q; omega⟩), h.pl, hr⟩
theorem Sw.told (h : Sw w W pb v T s vr ps) : RowP pb v T (ps.map Prod.fst, s) w (.returned vr) W := by
 obtain ⟨A, c, e, e2, e3⟩ := h.row.slice
 refine ⟨A, c, by rw [e, List.length_map], by rw [List.length_map]; exact e2, e3, h.pt, (fun i => if h : i < ps.length then ps[i].2 else ⟨none, 0, none, 0, none, 0⟩), fun i hi => ?_, fun i hi => ?_⟩
 ·have hl : i < ps.length := by rw [List.length_map] at hi; exact hi
  obtain ⟨b, c2, f1, f2, f3, f4⟩ := h.row.at_ hl
  rw [e] at f1
  cases f1
  refine ⟨b, 0, rfl, f2, f3, ?_⟩
  dsimp only
  rw [dif_pos hl, List.getElem_map, Nat.zero_add]
  exact f4
 ·have hl : i < ps.length := by rw [List.length_map] at hi; exact hi
  dsimp only
  rw [dif_pos hl, List.getElem_map]
  exact (h.row.nds _ (List.getElem_mem hl)).more (fun b z _ => z.1)
end
theorem told_app {w W : World} {pb : Nat} {v : Value} {T : Tks} {s : PSt} {vr : Value} {ps : List NP} {p : NP} (h : Sw w W pb v T s vr (ps ++ [p])) : RowP pb v T (ps.map Prod.fst ++ [p.1], s) w (.returned vr) W := by
 have h9 := h.told
 rw [List.map_append] at h9
 exact h9
theorem stm_step {n g i j : Nat} (h : n < g + i) (h1 : 0 < g) (h2 : i ≤ j) : n < (g - 1) + (j + 1) := by omega
set_option maxRecDepth 100000 in
set_option maxHeartbeats 16000000 in
theorem stmts_go {f : Nat} {w : World} {pb : Nat} {v : Value} {T : Tks} {s : PSt} (hp : PSpec T f) (h : PW w pb v T s) (hok : TokOk T) (hi : s.i ≤ T.length) (hfu : 8 * (T.length - s.i) + 6 < f + 1) : Calls Try.prog 16 #[.pointer (some ⟨pb, 0, none⟩)] w (RowP pb v T (stmtsS T (rcF T f) s) w) := by
 have HOK := Lib.hid hok
 have HI := Lib.hid hi
 have HFU : Hid (8 * (T.length - s.i) + 6 < f + 1) := Lib.hid hfu
 have HOG : Hid (∀ k, v.ownBlock = some k → k < w.heap.size) := Lib.hid (fun k e => (World.ownsRow.lt h.row k e).2)
 have HM0 : Hid (Sw w w pb v T s (.slice none 0 0) []) := Lib.hid ⟨h.pt, lt_of_block h.box, NdRow.nil _ _ _⟩
 clear h hok hi hfu
 go_enter Try.func16, Try.ntmps16
 go_wp2_with fail
 go_loopg [3] (T.length + 1) (fun g v3 wr => ∃ (A : Option Addr) (n c : Nat) (ps : List NP) (sk : PSt), v3 = .slice A n c ∧ ps.length = n ∧ Sw w wr pb v T sk (.slice A n c) ps ∧ stmtsL T (rcF T f) (T.length + 1) [] s = stmtsL T (rcF T f) g (ps.map Prod.fst) sk ∧ T.length < g + sk.i ∧ sk.i ≤ T.length ∧ ps.length ≤ sk.i ∧ s.i ≤ sk.i)
 case atStart => exact ⟨none, 0, 0, [], s, rfl, rfl, HM0.out, rfl, by omega, HI.out, Nat.zero_le _, Nat.le_refl _⟩
 case round =>
  obtain ⟨A, n, c, ps, sk, rfl, hln, hm9, hul, hg, hil, hpl, hmo⟩ := hrel
  clear HM0
  have HM := Lib.hid hm9
  have HLN := Lib.hid hln
  have HUL := Lib.hid hul
  have HG := Lib.hid hg
  have HIL := Lib.hid hil
  have HPL := Lib.hid hpl
  have HMO := Lib.hid hmo
  have HPB : Hid (ps.length ≤ 1000000) := Lib.hid (by have := HOK.out.len; omega)
  obtain ⟨t, ht⟩ : ∃ t, ahd T sk 0 = t := ⟨_, rfl⟩
  have HT := Lib.hid ht
  obtain ⟨bE, hbE⟩ : ∃ b, isT T sk 0 eB = b := ⟨_, rfl⟩
  have HBE := Lib.hid hbE
  obtain ⟨bK, hbK⟩ : ∃ b, isT T sk 10 bKet = b := ⟨_, rfl⟩
  have HBK := Lib.hid hbK
  obtain ⟨bH, hbH⟩ : ∃ b, isT T sk 10 bHat = b := ⟨_, rfl⟩
  have HBH := Lib.hid hbH
  have k3 : wr.cell? ⟨pb, 3, none⟩ = some (.int .i64 sk.e) := hm9.pt.1.cell rfl
  clear hm9 hln hul hg hil hpl hmo ht hbE hbK hbH
  by_cases he : sk.e = 0
  ·have HS0 := Lib.hid he
   rw [he] at k3
   clear he
   cases bE with
   | true =>
    have HE : Hid (stmtsS T (rcF T f) s = (ps.map Prod.fst, sk)) := Lib.hid (by
     show stmtsL T (rcF T f) (T.length + 1) [] s = _
     rw [HUL.out]
     cases gk with
     | zero => rfl
     | succ g => rw [stmtsL, if_neg (by rw [HS0.out, HBE.out]; simp)])
    go_wp2_with (first | (go_at_call 22; (with_reducible refine (is_at HM.out.pt.1.pt bel HOK.out 0 eB).mono ?_); rw [HBE.out]; rintro e wa ⟨rfl, hx⟩; have hm9 := HM.out.go bel hx; clear HM; have HM := Lib.hid hm9; clear hm9 hx))
    go_ret
    rw [HE.out]
    exact HM.out.told
   | false =>
    cases bK with
    | true =>
     have HE : Hid (stmtsS T (rcF T f) s = (ps.map Prod.fst, sk)) := Lib.hid (by
      show stmtsL T (rcF T f) (T.length + 1) [] s = _
      rw [HUL.out]
      cases gk with
      | zero => rfl
      | succ g => rw [stmtsL, if_neg (by rw [HS0.out, HBE.out, HBK.out]; simp)])
     go_wp2_with (first | (go_at_call 22; (with_reducible refine (is_at HM.out.pt.1.pt bel HOK.out 0 eB).mono ?_); rw [HBE.out]; rintro e wa ⟨rfl, hx⟩; have hm9 := HM.out.go bel hx; clear HM; have HM := Lib.hid hm9; clear hm9 hx) | (go_at_call 22; (with_reducible refine (is_at HM.out.pt.1.pt bel HOK.out 10 bKet).mono ?_); rw [HBK.out]; rintro e wb ⟨rfl, hx⟩; have hm9 := HM.out.go bel hx; clear HM; have HM := Lib.hid hm9; clear hm9 hx))
     go_ret
     rw [HE.out]
     exact HM.out.told
    | false =>
     cases bH with
     | true =>
      have HLT := Lib.hid (isT_lt HBH.out HOK.out (by decide))
      have HI1 : Hid ((takeT sk).i ≤ T.length) := Lib.hid HLT.out
      have HF5 : Hid (8 * (T.length - (takeT sk).i) + 5 < f) := Lib.hid (by have := HFU.out; have := HMO.out; have := HLT.out; show 8 * (T.length - (sk.i + 1)) + 5 < f; omega)
      obtain ⟨⟨y, s6⟩, hr0⟩ : ∃ r, (rcF T f).expr (takeT sk) = r := ⟨_, rfl⟩
      have HR0 := Lib.hid hr0
      have hgp := (rcF_go HOK.out.at0 f).expr (takeT sk)
      rw [hr0] at hgp
      have HI6 : Hid (s6.i ≤ T.length) := Lib.hid (hgp.go.top HI1.out)
      obtain ⟨t6, ht6⟩ : ∃ t, ahd T s6 0 = t := ⟨_, rfl⟩
      have HT6 := Lib.hid ht6
      obtain ⟨bd, hbd⟩ : ∃ b, isT T s6 10 bDot = b := ⟨_, rfl⟩
      have HBD := Lib.hid hbd
      have HE : Hid (stmtsS T (rcF T f) s = (ps.map Prod.fst ++ [.node 10 eB 0 [] [] [y]], if bd then takeT s6 else s6)) := Lib.hid (by
       show stmtsL T (rcF T f) (T.length + 1) [] s = _
       have h9 : gk = (gk - 1) + 1 := by have := HG.out; have := HLT.out; omega
       rw [HUL.out, h9, stmtsL, if_pos (by rw [HS0.out, HBE.out, HBK.out]; rfl), if_pos HBH.out, hr0]
       dsimp only
       rw [hbd])
      clear hr0 hgp ht6 hbd
      go_upto_region 5 with (first | (go_at_call 22; (with_reducible refine (is_at HM.out.pt.1.pt bel HOK.out 0 eB).mono ?_); rw [HBE.out]; rintro e wa ⟨rfl, hx⟩; have hm9 := HM.out.go bel hx; clear HM; have HM := Lib.hid hm9; clear hm9 hx) | (go_at_call 22; (with_reducible refine (is_at HM.out.pt.1.pt bel HOK.out 10 bKet).mono ?_); rw [HBK.out]; rintro e wb ⟨rfl, hx⟩; have hm9 := HM.out.go bel hx; clear HM; have HM := Lib.hid hm9; clear hm9 hx) | (go_at_call 22; (with_reducible refine (is_at HM.out.pt.1.pt bel HOK.out 10 bHat).mono ?_); rw [HBH.out]; rintro e wd ⟨rfl, hx⟩; have hm9 := HM.out.go bel hx; clear HM; have HM := Lib.hid hm9; clear hm9 hx) | (go_at_call 23; (with_reducible refine (take_any (HM.out.pt.1.below bel) HOK.out HIL.out HT.out).mono ?_); rintro e wt ⟨rfl, hx⟩; have hm9 := HM.out.go bel hx; clear HM; have HM := Lib.hid hm9; clear hm9 hx))
      have HFR := Lib.hid HM.out.fresh
      go_upto_region 6 with (first | (go_at_call 26; (with_reducible refine (hp.expr (HM.out.pt.1.below bel) HI1.out HF5.out).mono ?_); rw [HR0.out]; rintro e w6 ⟨qy, rfl, hx, hny⟩; unfold ndV; have HNY := Lib.hid (hny.more (D' := fun b => wt.heap.size ≤ b) (fun b z _ => z.elim False.elim (fun z => Nat.le_trans (show Below wt.heap.size wt _ from bel).size z))); have HNW := Lib.hid (Nat.le_trans (show Below wt.heap.size wt _ from bel).size hx.2.size); clear hny; have hm9 := HM.out.go bel hx; clear HM; have HM := Lib.hid hm9; clear hm9 hx))
      have hal := (Below.refl w6.heap.size w6).alloc (Nat.le_refl _) (.cells #[.int .i64 y.kind, .string y.text, .int .i64 y.num, .slice qy.pn y.names.length qy.cn, .slice qy.pt y.temps.length qy.ct, .slice qy.pk y.kids.length qy.ck] 25)
      have h7 := heap_alloc_new w6 (.cells #[.int .i64 y.kind, .string y.text, .int .i64 y.num, .slice qy.pn y.names.length qy.cn, .slice qy.pt y.temps.length qy.ct, .slice qy.pk y.kids.length qy.ck] 25)
      have hm9 := HM.out.below hal
      have hny := HNY.out.under hal
      obtain ⟨w7, hw7⟩ : ∃ w7, w6.alloc (.cells #[.int .i64 y.kind, .string y.text, .int .i64 y.num, .slice qy.pn y.names.length qy.cn, .slice qy.pt y.temps.length qy.ct, .slice qy.pk y.kids.length qy.ck] 25) = w7 := ⟨_, rfl⟩
      rw [hw7] at h7 hm9 hny ⊢
      clear HM HNY hal hw7
      have HM := Lib.hid hm9
      have hb9 : Below w7.heap.size w7 ((w7.alloc (.cells #[.int .i64 y.kind, .string y.text, .int .i64 y.num, .slice qy.pn y.names.length qy.cn, .slice qy.pt y.temps.length qy.ct, .slice qy.pk y.kids.length qy.ck] 25)).alloc (.cells #[.int .i64 10, .string eB, .int .i64 0, .slice none 0 0, .slice none 0 0, .slice (some ⟨w7.heap.size, 0, none⟩) 1 1] 25)) := bel
      have HRW := Lib.hid (hm9.below hb9).row
      have hnew := heap_alloc_new w7 (.cells #[.int .i64 y.kind, .string y.text, .int .i64 y.num, .slice qy.pn y.names.length qy.cn, .slice qy.pt y.temps.length qy.ct, .slice qy.pk y.kids.length qy.ck] 25)
      have hny9 := (hny.under hb9).more (D' := fun b => (fun b => w.heap.size ≤ b) b ∧ Value.ownBlock (.slice A n c) ≠ some b) (fun b z _ => HFR.out b z)
      have hlw : wt.heap.size ≤ w7.heap.size := Nat.le_trans HNW.out (by have := lt_of_block h7; omega)
      have HN9 : Hid (IsNd ((w7.alloc (.cells #[.int .i64 y.kind, .string y.text, .int .i64 y.num, .slice qy.pn y.names.length qy.cn, .slice qy.pt y.temps.length qy.ct, .slice qy.pk y.kids.length qy.ck] 25)).alloc (.cells #[.int .i64 10, .string eB, .int .i64 0, .slice none 0 0, .slice none 0 0, .slice (some ⟨w7.heap.size, 0, none⟩) 1 1] 25)) (fun b => (fun b => w.heap.size ≤ b) b ∧ Value.ownBlock (.slice A n c) ≠ some b) (.node 10 eB 0 [] [] [y]) ⟨none, 0, none, 0, some ⟨w7.heap.size, 0, none⟩, 1⟩) := Lib.hid (IsNd.one ⟨by decide, by decide⟩ ⟨by decide, by decide⟩ (by decide) (((Below.refl _ _).alloc (Nat.le_refl _) _ |>.block _ (lt_of_block hnew)).trans hnew) (HFR.out _ hlw) hny9)
      have HC : Hid (((w7.alloc (.cells #[.int .i64 y.kind, .string y.text, .int .i64 y.num, .slice qy.pn y.names.length qy.cn, .slice qy.pt y.temps.length qy.ct, .slice qy.pk y.kids.length qy.ck] 25)).alloc (.cells #[.int .i64 10, .string eB, .int .i64 0, .slice none 0 0, .slice none 0 0, .slice (some ⟨w7.heap.size, 0, none⟩) 1 1] 25)).heap[w7.heap.size + 1]? = some (.cells #[.int .i64 (NodT.node 10 eB 0 [] [] [y]).kind, .string (NodT.node 10 eB 0 [] [] [y]).text, .int .i64 (NodT.node 10 eB 0 [] [] [y]).num, .slice (⟨none, 0, none, 0, some ⟨w7.heap.size, 0, none⟩, 1⟩ : NS).pn (NodT.node 10 eB 0 [] [] [y]).names.length (⟨none, 0, none, 0, some ⟨w7.heap.size, 0, none⟩, 1⟩ : NS).cn, .slice (⟨none, 0, none, 0, some ⟨w7.heap.size, 0, none⟩, 1⟩ : NS).pt (NodT.node 10 eB 0 [] [] [y]).temps.length (⟨none, 0, none, 0, some ⟨w7.heap.size, 0, none⟩, 1⟩ : NS).ct, .slice (⟨none, 0, none, 0, some ⟨w7.heap.size, 0, none⟩, 1⟩ : NS).pk (NodT.node 10 eB 0 [] [] [y]).kids.length (⟨none, 0, none, 0, some ⟨w7.heap.size, 0, none⟩, 1⟩ : NS).ck] 25 (0, 0))) := Lib.hid (by have h8 := heap_alloc_new (w7.alloc (.cells #[.int .i64 y.kind, .string y.text, .int .i64 y.num, .slice qy.pn y.names.length qy.cn, .slice qy.pt y.temps.length qy.ct, .slice qy.pk y.kids.length qy.ck] 25)) (.cells #[.int .i64 10, .string eB, .int .i64 0, .slice none 0 0, .slice none 0 0, .slice (some ⟨w7.heap.size, 0, none⟩) 1 1] 25); rw [World.size_alloc] at h8; exact h8)
      have HBS : Hid (w.heap.size ≤ ((w7.alloc (.cells #[.int .i64 y.kind, .string y.text, .int .i64 y.num, .slice qy.pn y.names.length qy.cn, .slice qy.pt y.temps.length qy.ct, .slice qy.pk y.kids.length qy.ck] 25)).alloc (.cells #[.int .i64 10, .string eB, .int .i64 0, .slice none 0 0, .slice none 0 0, .slice (some ⟨w7.heap.size, 0, none⟩) 1 1] 25)).heap.size) := Lib.hid (Nat.le_trans hm9.pt.2.size hb9.size)
      obtain ⟨m0, m1, m2, m3, m4, m5⟩ := cc6 (h7)
      clear hb9 hnew hny9 hlw hm9 hny h7
      go_upto_region 7 with (first | (at_builtin; refine wpList_nd1 rfl _ _ rfl rfl HRW.out rfl HC.out HN9.out HPB.out HBS.out ?_; intro v9 w11 hown ht9 _; have hm9 := HM.out.push bel hown ht9 HOG.out; have HM9 := Lib.hid hm9; obtain ⟨A9, c9, hv9, _⟩ := hown.slice; subst hv9; clear hown ht9 hm9))
      have hm9 := HM9.out
      rw [List.length_append] at hm9
      clear HM
      have HM := Lib.hid hm9
      clear hm9
      cases bd with
      | true =>
       have HLD := Lib.hid (isT_lt HBD.out HOK.out (by decide))
       go_wp2_with (first | (go_at_call 22; (with_reducible refine (is_at HM.out.pt.1.pt bel HOK.out 10 bDot).mono ?_); rw [HBD.out]; rintro e wf ⟨rfl, hx⟩; have hm9 := HM.out.go bel hx; clear HM; have HM := Lib.hid hm9; clear hm9 hx) | (go_at_call 23; (with_reducible refine (take_any (HM.out.pt.1.below bel) HOK.out HI6.out HT6.out).mono ?_); rintro e wg ⟨rfl, hx⟩; have hm9 := HM.out.go bel hx; clear HM; have HM := Lib.hid hm9; clear hm9 hx))
       go_ret
       rw [HE.out]
       first | rw [if_pos rfl] | rw [if_pos trivial]
       exact told_app HM.out
      | false =>
       go_wp2_with (first | (go_at_call 22; (with_reducible refine (is_at HM.out.pt.1.pt bel HOK.out 10 bDot).mono ?_); rw [HBD.out]; rintro e wf ⟨rfl, hx⟩; have hm9 := HM.out.go bel hx; clear HM; have HM := Lib.hid hm9; clear hm9 hx))
       go_ret
       rw [HE.out, if_neg (by decide)]
       exact told_app HM.out
     | false =>
      have HF5 : Hid (8 * (T.length - sk.i) + 5 < f) := Lib.hid (by have := HFU.out; have := HMO.out; omega)
      obtain ⟨⟨y, s6⟩, hr0⟩ : ∃ r, (rcF T f).expr sk = r := ⟨_, rfl⟩
      have HR0 := Lib.hid hr0
      have hgp := (rcF_go HOK.out.at0 f).expr sk
      rw [hr0] at hgp
      have HI6 : Hid (s6.i ≤ T.length ∧ sk.i ≤ s6.i) := Lib.hid ⟨hgp.go.top HIL.out, hgp.go.le⟩
      have HI7 : Hid (s6.i ≤ T.length) := Lib.hid (hgp.go.top HIL.out)
      obtain ⟨t6, ht6⟩ : ∃ t, ahd T s6 0 = t := ⟨_, rfl⟩
      have HT6 := Lib.hid ht6
      obtain ⟨bd, hbd⟩ : ∃ b, isT T s6 10 bDot = b := ⟨_, rfl⟩
      have HBD := Lib.hid hbd
      have HE0 : Hid (0 < gk → stmtsS T (rcF T f) s = if bd then stmtsL T (rcF T f) (gk - 1) (ps.map Prod.fst ++ [y]) (takeT s6) else (ps.map Prod.fst ++ [y], s6)) := Lib.hid (by
       intro hgk
       show stmtsL T (rcF T f) (T.length + 1) [] s = _
       have h9 : gk = (gk - 1) + 1 := by omega
       rw [HUL.out, h9, stmtsL, if_pos (by rw [HS0.out, HBE.out, HBK.out]; rfl), if_neg (by rw [HBH.out]; decide), hr0]
       dsimp only
       rw [hbd, Nat.add_sub_cancel])
      have HGK : Hid (0 < gk) := Lib.hid (by have := HG.out; have := HIL.out; omega)
      clear hr0 hgp ht6 hbd
      go_upto_region 9 with (first | (go_at_call 22; (with_reducible refine (is_at HM.out.pt.1.pt bel HOK.out 0 eB).mono ?_); rw [HBE.out]; rintro e wa ⟨rfl, hx⟩; have hm9 := HM.out.go bel hx; clear HM; have HM := Lib.hid hm9; clear hm9 hx) | (go_at_call 22; (with_reducible refine (is_at HM.out.pt.1.pt bel HOK.out 10 bKet).mono ?_); rw [HBK.out]; rintro e wb ⟨rfl, hx⟩; have hm9 := HM.out.go bel hx; clear HM; have HM := Lib.hid hm9; clear hm9 hx) | (go_at_call 22; (with_reducible refine (is_at HM.out.pt.1.pt bel HOK.out 10 bHat).mono ?_); rw [HBH.out]; rintro e wt ⟨rfl, hx⟩; have hm9 := HM.out.go bel hx; clear HM; have HM := Lib.hid hm9; clear hm9 hx))
      have HFR := Lib.hid HM.out.fresh
      go_upto_region 10 with (first | (go_at_call 26; (with_reducible refine (hp.expr (HM.out.pt.1.below bel) HIL.out HF5.out).mono ?_); rw [HR0.out]; rintro e w6 ⟨qy, rfl, hx, hny⟩; unfold ndV; have hm9 := HM.out.go bel hx; have hb9 : Below w6.heap.size w6 (w6.alloc (.cells #[.int .i64 y.kind, .string y.text, .int .i64 y.num, .slice qy.pn y.names.length qy.cn, .slice qy.pt y.temps.length qy.ct, .slice qy.pk y.kids.length qy.ck] 25)) := (Below.refl _ _).alloc (Nat.le_refl _) _; have HRW := Lib.hid (hm9.below hb9).row; have HN9 := Lib.hid ((hny.under hb9).more (D' := fun b => (fun b => w.heap.size ≤ b) b ∧ Value.ownBlock (.slice A n c) ≠ some b) (fun b z _ => z.elim False.elim (fun z => HFR.out b (Nat.le_trans (show Below wt.heap.size wt _ from bel).size z)))); have HBS : Hid (w.heap.size ≤ (w6.alloc (.cells #[.int .i64 y.kind, .string y.text, .int .i64 y.num, .slice qy.pn y.names.length qy.cn, .slice qy.pt y.temps.length qy.ct, .slice qy.pk y.kids.length qy.ck] 25)).heap.size) := Lib.hid (Nat.le_trans hm9.pt.2.size hb9.size); clear HM; have HM := Lib.hid hm9; clear hny hx hb9 hm9) | (at_builtin; refine wpList_nd1 rfl _ _ rfl rfl HRW.out rfl (heap_alloc_new _ _) HN9.out HPB.out HBS.out ?_; intro v9 w11 hown ht9 _; have hm9 := HM.out.push bel hown ht9 HOG.out; have HM9 := Lib.hid hm9; obtain ⟨A9, c9, hv9, _⟩ := hown.slice; subst hv9; clear hown ht9 hm9))
      have hm9 := HM9.out
      rw [List.length_append] at hm9
      clear HM
      have HM := Lib.hid hm9
      clear hm9
      cases bd with
      | true =>
       have HLD := Lib.hid (isT_lt HBD.out HOK.out (by decide))
       go_wp2_with (first | (go_at_call 22; (with_reducible refine (is_at HM.out.pt.1.pt bel HOK.out 10 bDot).mono ?_); rw [HBD.out]; rintro e wf ⟨rfl, hx⟩; have hm9 := HM.out.go bel hx; clear HM; have HM := Lib.hid hm9; clear hm9 hx) | (go_at_call 23; (with_reducible refine (take_any (HM.out.pt.1.below bel) HOK.out HI7.out HT6.out).mono ?_); rintro e wg ⟨rfl, hx⟩; have hm9 := HM.out.go bel hx; clear HM; have HM := Lib.hid hm9; clear hm9 hx))
       go_roundg (gk - 1)
       case measure => have := HGK.out; omega
       case rel =>
        have hm9 := HM.out
        have hl9 : (ps ++ [(y, qy)]).length = ps.length + 1 := by rw [List.length_append]; rfl
        have hul : stmtsL T (rcF T f) (T.length + 1) [] s = stmtsL T (rcF T f) (gk - 1) ((ps ++ [(y, qy)]).map Prod.fst) (takeT s6) := by
         have h9 := HE0.out HGK.out
         rw [List.map_append]
         exact h9
        have hp2 : (ps ++ [(y, qy)]).length ≤ (takeT s6).i := by rw [List.length_append]; exact Nat.succ_le_succ (Nat.le_trans HPL.out HI6.out.2)
        have hg2 : T.length < (gk - 1) + (takeT s6).i := stm_step HG.out HGK.out HI6.out.2
        have hm2 : s.i ≤ (takeT s6).i := Nat.le_trans HMO.out (Nat.le_trans HI6.out.2 (Nat.le_succ _))
        exact ⟨A9, ps.length + 1, c9, ps ++ [(y, qy)], takeT s6, rfl, hl9, hm9, hul, hg2, HLD.out, hp2, hm2⟩
      | false =>
       go_wp2_with (first | (go_at_call 22; (with_reducible refine (is_at HM.out.pt.1.pt bel HOK.out 10 bDot).mono ?_); rw [HBD.out]; rintro e wf ⟨rfl, hx⟩; have hm9 := HM.out.go bel hx; clear HM; have HM := Lib.hid hm9; clear hm9 hx))
       go_ret
       rw [HE0.out HGK.out, if_neg (by decide)]
       exact told_app HM.out
  ·have y1 : (sk.e == 0) = false := by simpa using he
   have HY1 := Lib.hid y1
   have HE : Hid (stmtsS T (rcF T f) s = (ps.map Prod.fst, sk)) := Lib.hid (by
    show stmtsL T (rcF T f) (T.length + 1) [] s = _
    rw [HUL.out]
    cases gk with
    | zero => rfl
    | succ g => rw [stmtsL, if_neg (by rw [HY1.out]; simp)])
   clear he
   go_wp2_with (fail)
   go_ret
   rw [HE.out]
   exact HM.out.told
end Go.Proofs.Ytnojndgmgkgnpaa

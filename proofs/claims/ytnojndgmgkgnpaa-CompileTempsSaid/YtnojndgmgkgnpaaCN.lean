/- Chapter 10: a block's body. -/
import Derived.Test.YtnojndgmgkgnpaaCL
import Derived.Test.YtnojndgmgkgnpaaCTm
import Derived.Deep.QuietTactic
import Derived.BigQuiet
namespace Go.Proofs.Ytnojndgmgkgnpaa
open Go.ChangeShapes Go.WideShapes Go.ChangeAt Go.RowKit Go.Deep Go.Joins Go.Maps
set_option linter.unusedVariables false
set_option linter.unusedSimpArgs false
theorem agg_set6 {w : World} {b : Nat} {a0 a1 a2 a3 a4 a5 x0 x1 x2 x3 x4 x5 : Value} {T : TypeId} (h : w.heap[b]? = some (.cells #[a0, a1, a2, a3, a4, a5] T (0, 0))) : ((((((w.setCell ⟨b, 0, none⟩ x0).setCell ⟨b, 1, none⟩ x1).setCell ⟨b, 2, none⟩ x2).setCell ⟨b, 3, none⟩ x3).setCell ⟨b, 4, none⟩ x4).setCell ⟨b, 5, none⟩ x5).heap[b]? = some (.cells #[x0, x1, x2, x3, x4, x5] T (0, 0)) := by
 have h0 : (w.setCell ⟨b, 0, none⟩ x0).heap[b]? = some (.cells #[x0, a1, a2, a3, a4, a5] T (0, 0)) := by rw [heap_setCell_same _ b 0 _ _ _ h]; rfl
 have h1 : ((w.setCell ⟨b, 0, none⟩ x0).setCell ⟨b, 1, none⟩ x1).heap[b]? = some (.cells #[x0, x1, a2, a3, a4, a5] T (0, 0)) := by rw [heap_setCell_same _ b 1 _ _ _ h0]; rfl
 have h2 : (((w.setCell ⟨b, 0, none⟩ x0).setCell ⟨b, 1, none⟩ x1).setCell ⟨b, 2, none⟩ x2).heap[b]? = some (.cells #[x0, x1, x2, a3, a4, a5] T (0, 0)) := by rw [heap_setCell_same _ b 2 _ _ _ h1]; rfl
 have h3 : ((((w.setCell ⟨b, 0, none⟩ x0).setCell ⟨b, 1, none⟩ x1).setCell ⟨b, 2, none⟩ x2).setCell ⟨b, 3, none⟩ x3).heap[b]? = some (.cells #[x0, x1, x2, x3, a4, a5] T (0, 0)) := by rw [heap_setCell_same _ b 3 _ _ _ h2]; rfl
 have h4 : (((((w.setCell ⟨b, 0, none⟩ x0).setCell ⟨b, 1, none⟩ x1).setCell ⟨b, 2, none⟩ x2).setCell ⟨b, 3, none⟩ x3).setCell ⟨b, 4, none⟩ x4).heap[b]? = some (.cells #[x0, x1, x2, x3, x4, a5] T (0, 0)) := by rw [heap_setCell_same _ b 4 _ _ _ h3]; rfl
 rw [heap_setCell_same _ b 5 _ _ _ h4]; rfl
theorem setCells6_below {B : Nat} {w w1 : World} {b : Nat} {x0 x1 x2 x3 x4 x5 : Value} (h : Below B w w1) (hb : B ≤ b) : Below B w ((((((w1.setCell ⟨b, 0, none⟩ x0).setCell ⟨b, 1, none⟩ x1).setCell ⟨b, 2, none⟩ x2).setCell ⟨b, 3, none⟩ x3).setCell ⟨b, 4, none⟩ x4).setCell ⟨b, 5, none⟩ x5) :=
 (((((h.setCell hb _).setCell hb _).setCell hb _).setCell hb _).setCell hb _).setCell hb _
theorem slice_same (A : Option Addr) (n c : Nat) (h : n ≤ c) (w : World) : (Instr.slice 71 (.slice A n c) none (some (.int .i64 (n : Int))) (some (.int .i64 (n : Int)))).run Try.prog w = .ok (.slice A n n) w := by
 have hs : (sizeOf (Try.prog.elem 71)).run Try.prog w = .ok 4 w := by kernel_rfl
 have hl : (n : Int) ≤ (c : Int) := by omega
 simp [Instr.slice, run_underlying Try.underlying71, Instr.sliceBounds, run_sliceBound, sliced, hs, hl]
 cases A with
 | none => exact fun _ => rfl
 | some a => exact fun _ => rfl
/-- names without spare room -/
theorem NmRow.clip {w : World} {W W' : Nat → Prop} {A : Option Addr} {n c : Nat} {l : List Nm} (h : NmRow w W (.slice A n c) l) (hn : l.length = n) : NmRow w W' (.slice A n n) l := by
 subst hn
 rcases h with ⟨ho, _⟩ | ⟨A', hv, hA0, hA⟩
 ·have own := ho
  rcases ho.2 with ⟨h1, h0⟩ | ⟨g, cap, cur, hv, hg, hh, h1, h2, _⟩
  ·simp only [Value.slice.injEq] at h1
   have h1 := h1.1
   subst h1
   exact .inr ⟨none, rfl, fun _ => List.length_eq_zero_iff.1 h0, fun b e => by cases e⟩
  ·simp only [Value.slice.injEq] at hv
   obtain ⟨rfl, e1, e2⟩ := hv
   refine .inr ⟨some ⟨g, 0, none⟩, rfl, fun e => (by cases e), fun b e => ?_⟩
   cases e
   refine ⟨rfl, rfl, ⟨cur, hh⟩, fun j u hj => ?_⟩
   have hlt : j < (l.flatMap nmC).length := by
    rcases Nat.lt_or_ge j (l.flatMap nmC).length with q | q
    ·exact q
    ·rw [List.getElem?_eq_none q] at hj; cases hj
   rw [World.ownsRow.cellAt own j (by rw [flat_len nmC_len] at hlt; exact hlt)]
   exact hj
 ·simp only [Value.slice.injEq] at hv
  obtain ⟨rfl, _, _⟩ := hv
  exact .inr ⟨A, rfl, hA0, hA⟩
theorem body_eq (rec : NodT → CSt → CSt) (x : NodT) (s : CSt) : bodyP rec x s = { (if x.kids.length = 0 then emitP (stmtsP rec true x.kids (declP false x.temps (declP true x.names s))) 2 0 0 else stmtsP rec true x.kids (declP false x.temps (declP true x.names s))) with names := s.names } := rfl
/-- the names' room is given up: what lies there is kept now -/
theorem CY.clip {w0 w : World} {P : Nat → Prop} {cb : Nat} {m : MK} {s : CSt} {lv cv : Value} {D : Nat → Prop} {ps : List LP} {A : Option Addr} {n c : Nat} (h : CY w0 P w cb m s lv cv (.slice A n c) D ps) (hn : s.names.length = n) :
  CY w0 (fun k => P k ∨ (Value.slice A n n).ownBlock = some k) (w.setCell ⟨cb, 6, none⟩ (.slice A n n)) cb m s lv cv (.slice A n n) D ps := by
 have h1 : CY w0 P (w.setCell ⟨cb, 6, none⟩ (.slice A n n)) cb m s lv cv (.slice A n n) D ps := h.store (s' := s) 6 _ rfl rfl rfl (h.names.clip hn) h.nok h.enm
 have hob : ∀ k, (Value.slice A n n).ownBlock = some k → ∃ cur, (w.setCell ⟨cb, 6, none⟩ (.slice A n n)).heap[k]? = some (.cells cur 75 (0, 0)) := fun k hk => h1.names.type hk
 refine ⟨h1.box, h1.lits, h1.lps, h1.code, h1.names.clip hn, h1.nok, fun q => q.elim h1.cbP (fun e => ?_), fun k hk => ⟨fun q => q.elim (h1.lvP k hk).1 (fun e => ?_), (h1.lvP k hk).2⟩, fun k hk q => q.elim (h1.cvP k hk) (fun e => ?_), h1.dlt, h1.dty, h1.stat, fun k hk => .inl (h1.low k hk), fun k hk => hk.elim (h1.lim k) (fun e => lt_of_block (hob k e).choose_spec), h1.enm⟩
 ·obtain ⟨cur, hc⟩ := hob _ e
  rw [h1.box] at hc; simp at hc
 ·obtain ⟨cur, hc⟩ := hob _ e
  obtain ⟨cur2, hc2⟩ := own_type h1.lits.own hk
  rw [hc] at hc2; simp at hc2
 ·obtain ⟨cur, hc⟩ := hob _ e
  obtain ⟨cur2, hc2⟩ := own_type h1.code hk
  rw [hc] at hc2; simp at hc2
structure Sixn (w : World) (b n : Nat) (x : NodT) (q : NS) : Prop where
 c0 : w.cell? ⟨b, 0, none⟩ = some (.int .i64 x.kind)
 c1 : w.cell? ⟨b, 1, none⟩ = some (.string x.text)
 c2 : w.cell? ⟨b, 2, none⟩ = some (.int .i64 x.num)
 c3 : w.cell? ⟨b, 3, none⟩ = some (.slice q.pn x.names.length q.cn)
 c4 : w.cell? ⟨b, 4, none⟩ = some (.slice q.pt x.temps.length q.ct)
 c5 : w.cell? ⟨b, 5, none⟩ = some (.slice q.pk n q.ck)
theorem cells_sixn {w : World} {b n : Nat} {x : NodT} {q : NS} (h : w.heap[b]? = some (.cells #[.int .i64 x.kind, .string x.text, .int .i64 x.num, .slice q.pn x.names.length q.cn, .slice q.pt x.temps.length q.ct, .slice q.pk n q.ck] 25 (0, 0))) : Sixn w b n x q := ⟨by simp [World.cell?, h], by simp [World.cell?, h], by simp [World.cell?, h], by simp [World.cell?, h], by simp [World.cell?, h], by simp [World.cell?, h]⟩
theorem emit_code (s : CSt) (o a b : Int) : (emitP s o a b).code.length = s.code.length + 1 := by simp [emitP]
theorem emit_lits (s : CSt) (o a b : Int) : (emitP s o a b).lits = s.lits := rfl
set_option maxRecDepth 100000 in
set_option maxHeartbeats 16000000 in
theorem body_any6 {f : Nat} (hv : VSpec f) {w0 w : World} {P : Nat → Prop} {cb : Nat} {m : MK} {s : CSt} (h : CX w0 P w cb m s) {x : NodT} {q : NS} (hn : IsNd w0 (fun _ => True) x q) (hx : x.size ≤ f + 1) (hf : s.code.length + 8 * x.size ≤ 1000006) (hl : s.lits.length + x.size ≤ 100000) :
  Calls Try.prog 62 #[.pointer (some ⟨cb, 0, none⟩), ndV x q] w fun e w' => e = .returned (.tuple #[]) ∧ CT w0 P w w' cb m (bodyP (valP f) x s) := by
 have HV := Lib.hid hv
 have hxs := x.size_kids
 obtain ⟨lv, cv, nv, D, ps, hy, hfw⟩ := h
 obtain ⟨A, c, hnv, hcl⟩ := hy.names.slice
 subst hnv
 obtain ⟨n6, hn6⟩ : ∃ n6, s.names.length = n6 := ⟨_, rfl⟩
 obtain ⟨n, hnk⟩ : ∃ n, x.kids.length = n := ⟨_, rfl⟩
 have HNK := Lib.hid hnk
 have k6 : w.cell? ⟨cb, 6, none⟩ = some (.slice A n6 c) := by rw [hy.cell, ← hn6]; rfl
 have HCBP := Lib.hid hy.cbP
 have HNOK := Lib.hid hy.nok
 have HLOW := Lib.hid hy.low
 have HFW : Hid (s.temps ≤ 24 ∧ s.names.length ≤ 8 + s.temps) := Lib.hid hfw
 have HSN : Hid (Strs w0 (fun _ => True) q.pn x.names ∧ Strs w0 (fun _ => True) q.pt x.temps) := Lib.hid hn.strs
 have hok := hn.ok
 have HNL : Hid (x.names.length ≤ 9223372036854775807) := Lib.hid (by have h1 := hok.nlen; unfold maxLen at h1; omega)
 have HTL : Hid (x.temps.length ≤ 9223372036854775807) := Lib.hid (by have h1 := hok.tlen; unfold maxLen at h1; omega)
 have hle : n ≤ 9223372036854775807 := (by have h1 := hok.klen; unfold maxLen at h1; omega)
 have HRW := Lib.hid hn.rows
 rw [hn6] at hy hcl
 have hsl := slice_same A n6 c hcl
 have k6a : (w.alloc (.cells #[.int .i64 x.kind, .string x.text, .int .i64 x.num, .slice q.pn x.names.length q.cn, .slice q.pt x.temps.length q.ct, .slice q.pk n q.ck] 25)).cell? ⟨cb, 6, none⟩ = some (.slice A n6 c) := Lib.cell?_alloc_marked _ k6
 have hya : CY w0 (fun k => P k ∨ (w.heap.size ≤ k ∧ k < w.heap.size + 1)) (w.alloc (.cells #[.int .i64 x.kind, .string x.text, .int .i64 x.num, .slice q.pn x.names.length q.cn, .slice q.pt x.temps.length q.ct, .slice q.pk n q.ck] 25)) cb m s lv cv (.slice A n6 c) D ps := hy.below ((Below.refl _ _).alloc (Nat.le_refl _) _) (fun _ z => .inl z) (fun k z => by rw [World.size_alloc]; exact z)
 have f6a := hya.free 6
 have HYA := Lib.hid hya
 have HTS0 : Hid (Turns (outP P) w (w.alloc (.cells #[.int .i64 x.kind, .string x.text, .int .i64 x.num, .slice q.pn x.names.length q.cn, .slice q.pt x.temps.length q.ct, .slice q.pk n q.ck] 25))) := Lib.hid (Turns.of_below ((Below.refl _ _).alloc (Nat.le_refl _) _))
 have HBX : Hid ((w.alloc (.cells #[.int .i64 x.kind, .string x.text, .int .i64 x.num, .slice q.pn x.names.length q.cn, .slice q.pt x.temps.length q.ct, .slice q.pk n q.ck] 25)).heap[w.heap.size]? = some (.cells #[.int .i64 x.kind, .string x.text, .int .i64 x.num, .slice q.pn x.names.length q.cn, .slice q.pt x.temps.length q.ct, .slice q.pk n q.ck] 25 (0, 0))) := Lib.hid (heap_alloc_new w _)
 have HN6 := Lib.hid hn6
 have hcbn : cb ≠ w.heap.size := by have := lt_of_block hy.box; omega
 have HCBN := Lib.hid hcbn
 obtain ⟨sd, hsd⟩ : ∃ sd, declP false x.temps (declP true x.names s) = sd := ⟨_, rfl⟩
 have HSD := Lib.hid hsd
 have HRM0 : Hid (sd.code.length + 8 * NodT.sizes x.kids + 1 ≤ 1000000 ∧ sd.lits.length + NodT.sizes x.kids ≤ 100000) := Lib.hid (by
  have h1 := declP_same true x.names s
  have h2 := declP_same false x.temps (declP true x.names s)
  rw [hsd] at h2
  rw [h2.1, h2.2, h1.1, h1.2]
  exact ⟨by omega, by omega⟩)
 have HXS : Hid (NodT.sizes x.kids ≤ f) := Lib.hid (by omega)
 have HX0 : Hid (∃ b, b = w.heap.size) := Lib.hid ⟨_, rfl⟩
 unfold ndV
 rw [hnk]
 clear hnk hok hy hya hsd hn6 hn hx hf hl hfw hcl hv hcbn k6 hxs HX0
 go_enter Try.func62, Try.ntmps62
 go_upto_region 1 with fail
 go_quiet (fail)
 go_upto_region 3 with fail
 have hyb := (HYA.out.below (w' := (w.alloc (.cells #[.int .i64 x.kind, .string x.text, .int .i64 x.num, .slice q.pn x.names.length q.cn, .slice q.pt x.temps.length q.ct, .slice q.pk n q.ck] 25)).drewN nq) (below_drewN (Below.refl _ _) _) (fun _ z => z) (fun _ z => .inl z)).clip HN6.out
 have hbb : (((w.alloc (.cells #[.int .i64 x.kind, .string x.text, .int .i64 x.num, .slice q.pn x.names.length q.cn, .slice q.pt x.temps.length q.ct, .slice q.pk n q.ck] 25)).drewN nq).setCell ⟨cb, 6, none⟩ (.slice A n6 n6)).heap[w.heap.size]? = some (.cells #[.int .i64 x.kind, .string x.text, .int .i64 x.num, .slice q.pn x.names.length q.cn, .slice q.pt x.temps.length q.ct, .slice q.pk n q.ck] 25 (0, 0)) := (Below.heap_setCell _ _ _ _ (fun e => HCBN.out e.symm)).trans HBX.out
 have hts : Turns (outP P) w (((w.alloc (.cells #[.int .i64 x.kind, .string x.text, .int .i64 x.num, .slice q.pn x.names.length q.cn, .slice q.pt x.temps.length q.ct, .slice q.pk n q.ck] 25)).drewN nq).setCell ⟨cb, 6, none⟩ (.slice A n6 n6)) := ((HTS0.out).drewN nq).setCell _ _ (.inl HCBP.out)
 obtain ⟨w2, hw2⟩ : ∃ w2, ((w.alloc (.cells #[.int .i64 x.kind, .string x.text, .int .i64 x.num, .slice q.pn x.names.length q.cn, .slice q.pt x.temps.length q.ct, .slice q.pk n q.ck] 25)).drewN nq).setCell ⟨cb, 6, none⟩ (.slice A n6 n6) = w2 := ⟨_, rfl⟩
 rw [hw2] at hyb hbb hts ⊢
 obtain ⟨Pb, hPb⟩ : ∃ Pb : Nat → Prop, (fun k => (P k ∨ (w.heap.size ≤ k ∧ k < w.heap.size + 1)) ∨ (Value.slice A n6 n6).ownBlock = some k) = Pb := ⟨_, rfl⟩
 rw [hPb] at hyb
 have INB : Hid (Pb w.heap.size) := Lib.hid (by rw [← hPb]; exact .inl (.inr ⟨Nat.le_refl _, by omega⟩))
 have HSUB : Hid (∀ k, P k → Pb k) := Lib.hid (fun k z => by rw [← hPb]; exact .inl (.inl z))
 have HNM : Hid (∀ wz, Turns (outP Pb) w2 wz → NmRow wz (fun k => ¬ Pb k ∧ k ≠ cb) (.slice A n6 n6) s.names) := Lib.hid (fun wz ht => (hyb.names.clip (W' := fun _ => False) HN6.out).same ht.size (fun k hk => ht.block k (hyb.names.lt hk) (fun z => z (by rw [← hPb]; exact .inr hk))) (fun _ _ z => z.elim))
 have HX2 : Hid (CT w0 Pb w2 w2 cb m s) := Lib.hid ⟨⟨_, _, _, _, _, hyb, HFW.out⟩, Turns.refl _ _⟩
 have HB2 := Lib.hid hbb
 have HBL := Lib.hid (lt_of_block hbb)
 have HTS := Lib.hid hts
 have hc6 := cells_sixn HB2.out
 have c0 := hc6.c0
 have c1 := hc6.c1
 have c2 := hc6.c2
 have c3 := hc6.c3
 have c4 := hc6.c4
 have c5 := hc6.c5
 clear hc6
 clear hyb hbb hts hw2 hPb hsl k6a f6a HYA HTS0 HBX HCBN
 go_wp2_with (first | (go_at_call 43; (with_reducible refine (decl_at HX2.out bel HSN.out.1 rfl HNL.out true).mono ?_); rintro e w3 ⟨rfl, hx3⟩; have HX3 := Lib.hid hx3; have HB3 := Lib.hid ((hx3.2.block w.heap.size HBL.out (fun z => z INB.out)).trans HB2.out); clear hx3; have hc6 := cells_sixn HB3.out; have c0 := hc6.c0; have c1 := hc6.c1; have c2 := hc6.c2; have c3 := hc6.c3; have c4 := hc6.c4; have c5 := hc6.c5; clear hc6) | (go_at_call 43; (with_reducible refine (decl_at HX3.out bel HSN.out.2 rfl HTL.out false).mono ?_); rintro e w4 ⟨rfl, hx3⟩; have HX4 := Lib.hid hx3; have HB4 := Lib.hid ((hx3.2.block w.heap.size HBL.out (fun z => z INB.out)).trans HB2.out); clear hx3; have hc6 := cells_sixn HB4.out; have c0 := hc6.c0; have c1 := hc6.c1; have c2 := hc6.c2; have c3 := hc6.c3; have c4 := hc6.c4; have c5 := hc6.c5; clear hc6))
 go_loopw [37] (fun i wr => ∃ (k : Nat) (sk : CSt), i = .int .i64 k ∧ k ≤ n ∧ CT w0 Pb w2 wr cb m sk ∧ stmtsP (valP f) true x.kids sd = stmtsP (valP f) (decide (k = 0)) (x.kids.drop k) sk ∧ (sk.code.length + 8 * NodT.sizes (x.kids.drop k) + 1 ≤ 1000000 ∧ sk.lits.length + NodT.sizes (x.kids.drop k) ≤ 100000)) (fun i _ => n - (intOf i).toNat)
 case atStart => exact ⟨0, sd, rfl, Nat.zero_le _, by rw [← HSD.out]; exact HX4.out, rfl, HRM0.out⟩
 case round =>
  obtain ⟨k, sk, rfl, hk, hct, hde, hrm⟩ := hrel
  have HX := Lib.hid hct
  have HD := Lib.hid hde
  have HRM := Lib.hid hrm
  clear hct hde hrm c0 c1 c2 c3 c4 c5
  by_cases hlt : k < n
  ·have d1 : decide (k < n) = true := decide_eq_true hlt
   have d2 : decide ((k : Int) < (n : Int)) = true := decide_eq_true (by omega)
   have hkl : k < x.kids.length := by rw [HNK.out]; exact hlt
   obtain ⟨b, off, q', hpk, hbl, hc6, hkd⟩ := HRW.out k hkl
   have hsz := sizes_drop_eq x.kids k hkl
   have hst := HX.out.1.stat
   have hc6w := hc6.same (hst.block b hbl)
   have hsk : (x.kids[k]).size ≤ f := Nat.le_trans (sizes_drop x.kids k hkl) HXS.out
   have hdr : x.kids.drop k = x.kids[k] :: x.kids.drop (k + 1) := List.drop_eq_getElem_cons hkl
   obtain ⟨kd, hkx⟩ : ∃ kd, x.kids[k] = kd := ⟨_, rfl⟩
   rw [hkx] at hc6w hkd hsz hsk hdr
   have HSZ := Lib.hid hsz
   have HSK := Lib.hid hsk
   have HDR := Lib.hid hdr
   have HKD := Lib.hid hkd
   have HLT := Lib.hid hlt
   have hbw : b < wr.heap.size := Nat.lt_of_lt_of_le hbl hst.size
   have c0 := hc6w.c0
   have c1 := hc6w.c1
   have c2 := hc6w.c2
   have c3 := hc6w.c3
   have c4 := hc6w.c4
   have c5 := hc6w.c5
   have g0 : (0 : Int) ≤ (k : Int) := by omega
   have g1 : (k : Int) < (n : Int) := by omega
   have hbe : Below wr.heap.size wr (wr.alloc (.cells #[.int .i64 kd.kind, .string kd.text, .int .i64 kd.num, .slice q'.pn kd.names.length q'.cn, .slice q'.pt kd.temps.length q'.ct, .slice q'.pk kd.kids.length q'.ck] 25)) := (Below.refl _ _).alloc (Nat.le_refl _) _
   have hk5 := HX.out.1.keep hbe
   have hb5 : (wr.alloc (.cells #[.int .i64 kd.kind, .string kd.text, .int .i64 kd.num, .slice q'.pn kd.names.length q'.cn, .slice q'.pt kd.temps.length q'.ct, .slice q'.pk kd.kids.length q'.ck] 25)).heap[wr.heap.size]? = some (.cells #[.int .i64 kd.kind, .string kd.text, .int .i64 kd.num, .slice q'.pn kd.names.length q'.cn, .slice q'.pt kd.temps.length q'.ct, .slice q'.pk kd.kids.length q'.ck] 25 (0, 0)) := heap_alloc_new wr _
   have hin5 : wr.heap.size ≤ wr.heap.size ∧ wr.heap.size < (wr.alloc (.cells #[.int .i64 kd.kind, .string kd.text, .int .i64 kd.num, .slice q'.pn kd.names.length q'.cn, .slice q'.pt kd.temps.length q'.ct, .slice q'.pk kd.kids.length q'.ck] 25)).heap.size := ⟨Nat.le_refl _, lt_of_block hb5⟩
   have HWB0 := Lib.hid hbe
   have HK50 := Lib.hid hk5
   have HB50 := Lib.hid hb5
   have HIN50 := Lib.hid hin5
   clear hbe hk5 hb5 hin5
   rw [hpk]
   clear hst hc6 hc6w hkd hsz hsk hdr hkx hkl hlt hpk
   go_upto_region 8 with fail
   have hbe := HWB0.out
   have hk5 := HK50.out
   have hb5 := HB50.out
   have hin5 := HIN50.out
   obtain ⟨wb, hwb⟩ : ∃ wb, (wr.alloc (.cells #[.int .i64 kd.kind, .string kd.text, .int .i64 kd.num, .slice q'.pn kd.names.length q'.cn, .slice q'.pt kd.temps.length q'.ct, .slice q'.pk kd.kids.length q'.ck] 25)) = wb := ⟨_, rfl⟩
   rw [hwb] at hbe hk5 hb5 hin5 ⊢
   have HWB := Lib.hid hbe
   have HK5 := Lib.hid hk5
   have HB5 := Lib.hid hb5
   have HIN5 : Hid ((fun j => Pb j ∨ wr.heap.size ≤ j ∧ j < wb.heap.size) wr.heap.size) := Lib.hid (.inr hin5)
   have hc6 := cells_six HB5.out
   have d0 := hc6.c0
   have d1 := hc6.c1
   have d2 := hc6.c2
   have d3 := hc6.c3
   have d4 := hc6.c4
   have d5 := hc6.c5
   clear hc6
   clear hbe hk5 hb5 hin5 hwb HWB0 HK50 HB50 HIN50
   by_cases ek : k = 0
   ·have HK0 : Hid (decide (k = 0) = true) := Lib.hid (by simpa using ek)
    have g2 : decide ((0 : Int) < (k : Int)) = false := decide_eq_false (by omega)
    have g3 : decide (0 < k) = false := decide_eq_false (by omega)
    clear ek
    by_cases e10 : kd.kind = 10
    ·have HE10 : Hid ((kd.kind = 10) = True) := Lib.hid (eq_true e10)
     have q1 : (kd.kind == 10) = true := by simpa using e10
     clear e10
     have hgr := valP_gr f kd sk HSK.out
     have hva : ∀ {wa W : World}, CT w0 (fun j => Pb j ∨ wr.heap.size ≤ j ∧ j < wb.heap.size) wb wa cb m sk → Below wa.heap.size wa W → Calls Try.prog 44 #[.pointer (some ⟨cb, 0, none⟩), ndV kd q'] W fun e w' => e = .returned (.tuple #[]) ∧ CT w0 (fun j => Pb j ∨ wr.heap.size ≤ j ∧ j < wb.heap.size) wb w' cb m (valP f kd sk) := fun hc hb => HV.out.at_ HSK.out hc hb HKD.out (by have h1 := HRM.out; have h2 := HSZ.out; omega) (by have h1 := HRM.out; have h2 := HSZ.out; omega)
     unfold ndV at hva
     have HVA : Hid (∀ {wa W : World}, CT w0 (fun j => Pb j ∨ wr.heap.size ≤ j ∧ j < wb.heap.size) wb wa cb m sk → Below wa.heap.size wa W → _) := Lib.hid hva
     have HF5 : Hid (sk.code.length ≤ 1000000) := Lib.hid (by have h1 := HRM.out; omega)
     have HF7 : Hid (((valP f kd sk)).code.length ≤ 1000000) := Lib.hid (by have h0 := hgr.code; have h1 := HRM.out; have h2 := HSZ.out; have h3 := kd.size_pos; omega)
     have HG : Hid (((emitP (valP f kd sk) 2 0 0)).code.length + 8 * NodT.sizes (x.kids.drop (k + 1)) + 1 ≤ 1000000 ∧ ((emitP (valP f kd sk) 2 0 0)).lits.length + NodT.sizes (x.kids.drop (k + 1)) ≤ 100000) := Lib.hid (by
      have h0 := hgr.code
      have h4 := hgr.lits
      have h1 := HRM.out
      have h2 := HSZ.out
      have h3 := kd.size_pos
 
 
      rw [emit_code, emit_lits]
      exact ⟨by omega, by omega⟩)
     clear hva hgr
     go_wp2_with (first | (go_at_call 44; (with_reducible refine (HVA.out HK5.out.ct bel).mono ?_); rintro e w7 ⟨rfl, hx3⟩; have HX7 := Lib.hid hx3; have HB7 := Lib.hid ((hx3.2.block wr.heap.size (lt_of_block HB5.out) (fun z => z HIN5.out)).trans HB5.out); clear hx3; have hc6 := cells_six HB7.out; have d0 := hc6.c0; have d1 := hc6.c1; have d2 := hc6.c2; have d3 := hc6.c3; have d4 := hc6.c4; have d5 := hc6.c5; clear hc6) | (go_at_call 45; (with_reducible refine (emit_at HX7.out bel 2 0 0 HF7.out).mono ?_); rintro e w8 ⟨rfl, hx3⟩; have HX8 := Lib.hid hx3; clear hx3))
     go_roundw
     case rel => exact ⟨k + 1, (emitP (valP f kd sk) 2 0 0), by go_num, HLT.out, HX.out.back HWB.out HX8.out (fun k z => .inl z), by rw [HD.out, HDR.out, stmtsP]; simp only [HE10.out, HK0.out, decide_true, decide_false, if_true, if_false]; rfl, HG.out⟩
     case measure => simp [intOf]; have := HLT.out; omega
    ·have HE10 : Hid ((kd.kind = 10) = False) := Lib.hid (eq_false e10)
     have q1 : (kd.kind == 10) = false := by simpa using e10
     clear e10
     have hgr := valP_gr f kd sk HSK.out
     have hva : ∀ {wa W : World}, CT w0 (fun j => Pb j ∨ wr.heap.size ≤ j ∧ j < wb.heap.size) wb wa cb m sk → Below wa.heap.size wa W → Calls Try.prog 44 #[.pointer (some ⟨cb, 0, none⟩), ndV kd q'] W fun e w' => e = .returned (.tuple #[]) ∧ CT w0 (fun j => Pb j ∨ wr.heap.size ≤ j ∧ j < wb.heap.size) wb w' cb m (valP f kd sk) := fun hc hb => HV.out.at_ HSK.out hc hb HKD.out (by have h1 := HRM.out; have h2 := HSZ.out; omega) (by have h1 := HRM.out; have h2 := HSZ.out; omega)
     unfold ndV at hva
     have HVA : Hid (∀ {wa W : World}, CT w0 (fun j => Pb j ∨ wr.heap.size ≤ j ∧ j < wb.heap.size) wb wa cb m sk → Below wa.heap.size wa W → _) := Lib.hid hva
     have HF5 : Hid (sk.code.length ≤ 1000000) := Lib.hid (by have h1 := HRM.out; omega)
     have HF7 : Hid (((valP f kd sk)).code.length ≤ 1000000) := Lib.hid (by have h0 := hgr.code; have h1 := HRM.out; have h2 := HSZ.out; have h3 := kd.size_pos; omega)
     have HG : Hid (((valP f kd sk)).code.length + 8 * NodT.sizes (x.kids.drop (k + 1)) + 1 ≤ 1000000 ∧ ((valP f kd sk)).lits.length + NodT.sizes (x.kids.drop (k + 1)) ≤ 100000) := Lib.hid (by
      have h0 := hgr.code
      have h4 := hgr.lits
      have h1 := HRM.out
      have h2 := HSZ.out
      have h3 := kd.size_pos
 
 
 
      exact ⟨by omega, by omega⟩)
     clear hva hgr
     go_wp2_with (first | (go_at_call 44; (with_reducible refine (HVA.out HK5.out.ct bel).mono ?_); rintro e w7 ⟨rfl, hx3⟩; have HX7 := Lib.hid hx3; have HB7 := Lib.hid ((hx3.2.block wr.heap.size (lt_of_block HB5.out) (fun z => z HIN5.out)).trans HB5.out); clear hx3; have hc6 := cells_six HB7.out; have d0 := hc6.c0; have d1 := hc6.c1; have d2 := hc6.c2; have d3 := hc6.c3; have d4 := hc6.c4; have d5 := hc6.c5; clear hc6))
     go_roundw
     case rel => exact ⟨k + 1, (valP f kd sk), by go_num, HLT.out, HX.out.back HWB.out HX7.out (fun k z => .inl z), by rw [HD.out, HDR.out, stmtsP]; simp only [HE10.out, HK0.out, decide_true, decide_false, if_true, if_false]; rfl, HG.out⟩
     case measure => simp [intOf]; have := HLT.out; omega
   ·have HK0 : Hid (decide (k = 0) = false) := Lib.hid (by simpa using ek)
    have g2 : decide ((0 : Int) < (k : Int)) = true := decide_eq_true (by omega)
    have g3 : decide (0 < k) = true := decide_eq_true (by omega)
    clear ek
    by_cases e10 : kd.kind = 10
    ·have HE10 : Hid ((kd.kind = 10) = True) := Lib.hid (eq_true e10)
     have q1 : (kd.kind == 10) = true := by simpa using e10
     clear e10
     have hgr := valP_gr f kd (emitP sk 12 0 0) HSK.out
     have hva : ∀ {wa W : World}, CT w0 (fun j => Pb j ∨ wr.heap.size ≤ j ∧ j < wb.heap.size) wb wa cb m (emitP sk 12 0 0) → Below wa.heap.size wa W → Calls Try.prog 44 #[.pointer (some ⟨cb, 0, none⟩), ndV kd q'] W fun e w' => e = .returned (.tuple #[]) ∧ CT w0 (fun j => Pb j ∨ wr.heap.size ≤ j ∧ j < wb.heap.size) wb w' cb m (valP f kd (emitP sk 12 0 0)) := fun hc hb => HV.out.at_ HSK.out hc hb HKD.out (by have h1 := HRM.out; have h2 := HSZ.out; rw [emit_code]; omega) (by have h1 := HRM.out; have h2 := HSZ.out; rw [emit_lits]; omega)
     unfold ndV at hva
     have HVA : Hid (∀ {wa W : World}, CT w0 (fun j => Pb j ∨ wr.heap.size ≤ j ∧ j < wb.heap.size) wb wa cb m (emitP sk 12 0 0) → Below wa.heap.size wa W → _) := Lib.hid hva
     have HF5 : Hid (sk.code.length ≤ 1000000) := Lib.hid (by have h1 := HRM.out; omega)
     have HF7 : Hid (((valP f kd (emitP sk 12 0 0))).code.length ≤ 1000000) := Lib.hid (by have h0 := hgr.code; have h1 := HRM.out; have h2 := HSZ.out; have h3 := kd.size_pos; rw [emit_code] at h0; omega)
     have HG : Hid (((emitP (valP f kd (emitP sk 12 0 0)) 2 0 0)).code.length + 8 * NodT.sizes (x.kids.drop (k + 1)) + 1 ≤ 1000000 ∧ ((emitP (valP f kd (emitP sk 12 0 0)) 2 0 0)).lits.length + NodT.sizes (x.kids.drop (k + 1)) ≤ 100000) := Lib.hid (by
      have h0 := hgr.code
      have h4 := hgr.lits
      have h1 := HRM.out
      have h2 := HSZ.out
      have h3 := kd.size_pos
      rw [emit_code] at h0
      rw [emit_lits] at h4
      rw [emit_code, emit_lits]
      exact ⟨by omega, by omega⟩)
     clear hva hgr
     go_wp2_with (first | (go_at_call 45; (with_reducible refine (emit_at HK5.out.ct bel 12 0 0 HF5.out).mono ?_); rintro e w6 ⟨rfl, hx3⟩; have HX6 := Lib.hid hx3; have HB6 := Lib.hid ((hx3.2.block wr.heap.size (lt_of_block HB5.out) (fun z => z HIN5.out)).trans HB5.out); clear hx3; have hc6 := cells_six HB6.out; have d0 := hc6.c0; have d1 := hc6.c1; have d2 := hc6.c2; have d3 := hc6.c3; have d4 := hc6.c4; have d5 := hc6.c5; clear hc6) | (go_at_call 44; (with_reducible refine (HVA.out HX6.out bel).mono ?_); rintro e w7 ⟨rfl, hx3⟩; have HX7 := Lib.hid hx3; have HB7 := Lib.hid ((hx3.2.block wr.heap.size (lt_of_block HB5.out) (fun z => z HIN5.out)).trans HB5.out); clear hx3; have hc6 := cells_six HB7.out; have d0 := hc6.c0; have d1 := hc6.c1; have d2 := hc6.c2; have d3 := hc6.c3; have d4 := hc6.c4; have d5 := hc6.c5; clear hc6) | (go_at_call 45; (with_reducible refine (emit_at HX7.out bel 2 0 0 HF7.out).mono ?_); rintro e w8 ⟨rfl, hx3⟩; have HX8 := Lib.hid hx3; clear hx3))
     go_roundw
     case rel => exact ⟨k + 1, (emitP (valP f kd (emitP sk 12 0 0)) 2 0 0), by go_num, HLT.out, HX.out.back HWB.out HX8.out (fun k z => .inl z), by rw [HD.out, HDR.out, HK0.out, stmtsP]; simp only [HE10.out, decide_true, decide_false, if_true, if_false]; rfl, HG.out⟩
     case measure => simp [intOf]; have := HLT.out; omega
    ·have HE10 : Hid ((kd.kind = 10) = False) := Lib.hid (eq_false e10)
     have q1 : (kd.kind == 10) = false := by simpa using e10
     clear e10
     have hgr := valP_gr f kd (emitP sk 12 0 0) HSK.out
     have hva : ∀ {wa W : World}, CT w0 (fun j => Pb j ∨ wr.heap.size ≤ j ∧ j < wb.heap.size) wb wa cb m (emitP sk 12 0 0) → Below wa.heap.size wa W → Calls Try.prog 44 #[.pointer (some ⟨cb, 0, none⟩), ndV kd q'] W fun e w' => e = .returned (.tuple #[]) ∧ CT w0 (fun j => Pb j ∨ wr.heap.size ≤ j ∧ j < wb.heap.size) wb w' cb m (valP f kd (emitP sk 12 0 0)) := fun hc hb => HV.out.at_ HSK.out hc hb HKD.out (by have h1 := HRM.out; have h2 := HSZ.out; rw [emit_code]; omega) (by have h1 := HRM.out; have h2 := HSZ.out; rw [emit_lits]; omega)
     unfold ndV at hva
     have HVA : Hid (∀ {wa W : World}, CT w0 (fun j => Pb j ∨ wr.heap.size ≤ j ∧ j < wb.heap.size) wb wa cb m (emitP sk 12 0 0) → Below wa.heap.size wa W → _) := Lib.hid hva
     have HF5 : Hid (sk.code.length ≤ 1000000) := Lib.hid (by have h1 := HRM.out; omega)
     have HF7 : Hid (((valP f kd (emitP sk 12 0 0))).code.length ≤ 1000000) := Lib.hid (by have h0 := hgr.code; have h1 := HRM.out; have h2 := HSZ.out; have h3 := kd.size_pos; rw [emit_code] at h0; omega)
     have HG : Hid (((valP f kd (emitP sk 12 0 0))).code.length + 8 * NodT.sizes (x.kids.drop (k + 1)) + 1 ≤ 1000000 ∧ ((valP f kd (emitP sk 12 0 0))).lits.length + NodT.sizes (x.kids.drop (k + 1)) ≤ 100000) := Lib.hid (by
      have h0 := hgr.code
      have h4 := hgr.lits
      have h1 := HRM.out
      have h2 := HSZ.out
      have h3 := kd.size_pos
      rw [emit_code] at h0
      rw [emit_lits] at h4
 
      exact ⟨by omega, by omega⟩)
     clear hva hgr
     go_wp2_with (first | (go_at_call 45; (with_reducible refine (emit_at HK5.out.ct bel 12 0 0 HF5.out).mono ?_); rintro e w6 ⟨rfl, hx3⟩; have HX6 := Lib.hid hx3; have HB6 := Lib.hid ((hx3.2.block wr.heap.size (lt_of_block HB5.out) (fun z => z HIN5.out)).trans HB5.out); clear hx3; have hc6 := cells_six HB6.out; have d0 := hc6.c0; have d1 := hc6.c1; have d2 := hc6.c2; have d3 := hc6.c3; have d4 := hc6.c4; have d5 := hc6.c5; clear hc6) | (go_at_call 44; (with_reducible refine (HVA.out HX6.out bel).mono ?_); rintro e w7 ⟨rfl, hx3⟩; have HX7 := Lib.hid hx3; have HB7 := Lib.hid ((hx3.2.block wr.heap.size (lt_of_block HB5.out) (fun z => z HIN5.out)).trans HB5.out); clear hx3; have hc6 := cells_six HB7.out; have d0 := hc6.c0; have d1 := hc6.c1; have d2 := hc6.c2; have d3 := hc6.c3; have d4 := hc6.c4; have d5 := hc6.c5; clear hc6))
     go_roundw
     case rel => exact ⟨k + 1, (valP f kd (emitP sk 12 0 0)), by go_num, HLT.out, HX.out.back HWB.out HX7.out (fun k z => .inl z), by rw [HD.out, HDR.out, HK0.out, stmtsP]; simp only [HE10.out, decide_true, decide_false, if_true, if_false]; rfl, HG.out⟩
     case measure => simp [intOf]; have := HLT.out; omega
  ·skip
   have hkn : k = n := by omega
   have d1 : decide (k < n) = false := decide_eq_false hlt
   have d2 : decide ((k : Int) < (n : Int)) = false := decide_eq_false (by omega)
   clear hlt
   have hd0 : stmtsP (valP f) true x.kids sd = sk := by rw [HD.out, hkn, ← HNK.out, List.drop_length]; rfl
   subst hkn
   have HFZ : Hid (sk.code.length ≤ 1000000) := Lib.hid (by have h1 := HRM.out; omega)
   have HTM : Hid (s.temps ≤ sk.temps) := Lib.hid (by
    have h1 := ((declP_tm true x.names s).trans (declP_tm false x.temps _)).trans (stmtsP_tm (valP_tm f) true x.kids _)
    rw [HSD.out, hd0] at h1
    exact h1.temps)
   have HB9 := Lib.hid ((HX.out.2.block w.heap.size HBL.out (fun z => z INB.out)).trans HB2.out)
   have hc6 := cells_sixn HB9.out
   have c0 := hc6.c0
   have c1 := hc6.c1
   have c2 := hc6.c2
   have c3 := hc6.c3
   have c4 := hc6.c4
   have c5 := hc6.c5
   clear hc6
   obtain ⟨lvy, cvy, nvy, Dy, psy, hyy, hfy⟩ := HX.out.1
   have f6y := hyy.free 6
   have k6y : wr.cell? ⟨cb, 6, none⟩ = some nvy := by rw [hyy.cell]; rfl
   have HYY := Lib.hid hyy
   clear hyy
   by_cases e0 : k = 0
   ·have HBD : Hid (bodyP (valP f) x s = { emitP sk 2 0 0 with names := s.names }) := Lib.hid (by rw [body_eq, HSD.out, hd0, if_pos (by rw [HNK.out]; exact e0)])
    have z1 : (k == 0) = true := by simpa using e0
    have z2 : ((k : Int) == 0) = true := by simp; omega
    clear e0 hd0
    go_wp2_with (first | (go_at_call 45; (with_reducible refine (emit_at HX.out bel 2 0 0 HFZ.out).mono ?_); rintro e w8 ⟨rfl, hx3⟩; have HX8 := Lib.hid hx3; obtain ⟨lvz, cvz, nvz, Dz, psz, hyz, hfz⟩ := hx3.1; have f6z := hyz.free 6; have k6z : w8.cell? ⟨cb, 6, none⟩ = some nvz := (by rw [hyz.cell]; rfl); have HYZ := Lib.hid hyz; clear hx3 hyz))
    go_returns
    refine ⟨rfl, ?_, ?_⟩
    ·have hy9 := HYZ.out.store (s' := { emitP sk 2 0 0 with names := s.names }) 6 (.slice A n6 n6) (by simp [boxC]) rfl rfl (HNM.out w8 HX8.out.2) HNOK.out HYZ.out.enm
     rw [HBD.out]
     refine CX.less (P := Pb) ⟨_, _, _, _, _, hy9, ?_, ?_⟩ HSUB.out HLOW.out
     ·have h1 := HX8.out.1.few
      exact h1.1
     ·have h1 := HFW.out
      have h2 := HTM.out
      show s.names.length ≤ 8 + (emitP sk 2 0 0).temps
      have h3 : sk.temps = (emitP sk 2 0 0).temps := rfl
      omega
    ·exact (HTS.out.trans (HX8.out.2.mono (fun k _ z q => z (HSUB.out k q)))).setCell _ _ (.inl HCBP.out)
   ·have HBD : Hid (bodyP (valP f) x s = { sk with names := s.names }) := Lib.hid (by rw [body_eq, HSD.out, hd0, if_neg (by rw [HNK.out]; exact e0)])
    have z1 : (k == 0) = false := by simpa using e0
    have z2 : ((k : Int) == 0) = false := by simp; omega
    clear e0 hd0
    go_wp2_with fail
    go_returns
    refine ⟨rfl, ?_, ?_⟩
    ·have hy9 := HYY.out.store (s' := { sk with names := s.names }) 6 (.slice A n6 n6) (by simp [boxC]) rfl rfl (HNM.out wr HX.out.2) HNOK.out HYY.out.enm
     rw [HBD.out]
     refine CX.less (P := Pb) ⟨_, _, _, _, _, hy9, ?_, ?_⟩ HSUB.out HLOW.out
     ·have h1 := HX.out.1.few
      exact h1.1
     ·have h1 := HFW.out
      have h2 := HTM.out
      show s.names.length ≤ 8 + (sk).temps
      have h3 : sk.temps = (sk).temps := rfl
      omega
    ·exact (HTS.out.trans (HX.out.2.mono (fun k _ z q => z (HSUB.out k q)))).setCell _ _ (.inl HCBP.out)
theorem body_any {f : Nat} (hv : VSpec f) {w0 w : World} {P : Nat → Prop} {cb : Nat} {m : MK} {s : CSt} (h : CX w0 P w cb m s) {x : NodT} {q : NS} (hn : IsNd w0 (fun _ => True) x q) (hx : x.size ≤ f + 1) (hf : s.code.length + 8 * x.size ≤ 1000000) (hl : s.lits.length + x.size ≤ 100000) :
  Calls Try.prog 62 #[.pointer (some ⟨cb, 0, none⟩), ndV x q] w fun e w' => e = .returned (.tuple #[]) ∧ CT w0 P w w' cb m (bodyP (valP f) x s) := body_any6 hv h hn hx (by omega) hl
end Go.Proofs.Ytnojndgmgkgnpaa

/- Chapter 10: a literal is put, if it is none of those that stand there. -/
import Derived.Test.YtnojndgmgkgnpaaCF
namespace Go.Proofs.Ytnojndgmgkgnpaa
open Go.ChangeShapes Go.WideShapes Go.ChangeAt Go.RowKit Go.Deep Go.Joins Go.Maps
set_option linter.unusedVariables false
set_option linter.unusedSimpArgs false
def placeO (o : Option Nat) (s : CSt) (l : LitT) : Nat × CSt := match o with
 | some i => (i, s)
 | none => (s.lits.length, { s with lits := s.lits ++ [l] })
theorem own4 {w : World} {g n c : Nat} {e : TypeId} {xs : List Value} {z0 z1 z2 z3 : Value} (h : w.ownsRow 0 e 4 (.slice (some ⟨g, 0, none⟩) (n + 1) c) (n + 1) (xs ++ [z0, z1, z2, z3])) (hx : xs.length = n * 4) (x0 x1 x2 x3 : Value) :
  ((((w.setCell ⟨g, n * 4, none⟩ x0).setCell ⟨g, n * 4 + 1, none⟩ x1).setCell ⟨g, n * 4 + 2, none⟩ x2).setCell ⟨g, n * 4 + 3, none⟩ x3).ownsRow 0 e 4 (.slice (some ⟨g, 0, none⟩) (n + 1) c) (n + 1) (xs ++ [x0, x1, x2, x3]) := by
 have h0 := ownsRow_set h x0 (j := n * 4) (by omega)
 have h1 := ownsRow_set h0 x1 (j := n * 4 + 1) (by omega)
 have h2 := ownsRow_set h1 x2 (j := n * 4 + 2) (by omega)
 have h3 := ownsRow_set h2 x3 (j := n * 4 + 3) (by omega)
 have e : ((((xs ++ [z0, z1, z2, z3]).set (n * 4) x0).set (n * 4 + 1) x1).set (n * 4 + 2) x2).set (n * 4 + 3) x3 = xs ++ [x0, x1, x2, x3] := by
  rw [← hx, List.set_append_right _ _ (Nat.le_refl _), List.set_append_right _ _ (by omega), List.set_append_right _ _ (by omega), List.set_append_right _ _ (by omega)]
  simp
 rw [e] at h3
 exact h3
/-- the last literal is another one -/
theorem CY.fix {w0 w : World} {P : Nat → Prop} {cb : Nat} {m : MK} {s : CSt} {lv cv nv : Value} {D : Nat → Prop} {ps : List LP} {g c n : Nat} {p0 p : LP} {s2 : CSt} (h : CY w0 P w cb m s (.slice (some ⟨g, 0, none⟩) (n + 1) c) cv nv D (ps ++ [p0])) (hn : ps.length = n) {Dl : Nat → Prop} (hp : IsLt w Dl p.1 p.2) (hD : ∀ k, Dl k → k ≠ g ∧ ∃ cur, w.heap[k]? = some (.cells cur 40 (0, 0))) (hs2 : s2 = { s with lits := (ps ++ [p]).map Prod.fst }) :
  CY w0 P ((((w.setCell ⟨g, n * 4, none⟩ (.int .i64 p.1.kind_)).setCell ⟨g, n * 4 + 1, none⟩ (.string p.1.text_)).setCell ⟨g, n * 4 + 2, none⟩ (.int .i64 p.1.num_)).setCell ⟨g, n * 4 + 3, none⟩ (.slice p.2.p p.1.kids_.length p.2.c)) cb m s2 (.slice (some ⟨g, 0, none⟩) (n + 1) c) cv nv (fun k => D k ∨ Dl k) (ps ++ [p]) ∧
  Turns (outP P) w ((((w.setCell ⟨g, n * 4, none⟩ (.int .i64 p.1.kind_)).setCell ⟨g, n * 4 + 1, none⟩ (.string p.1.text_)).setCell ⟨g, n * 4 + 2, none⟩ (.int .i64 p.1.num_)).setCell ⟨g, n * 4 + 3, none⟩ (.slice p.2.p p.1.kids_.length p.2.c)) := by
 obtain ⟨W, hW⟩ : ∃ W, ((((w.setCell ⟨g, n * 4, none⟩ (.int .i64 p.1.kind_)).setCell ⟨g, n * 4 + 1, none⟩ (.string p.1.text_)).setCell ⟨g, n * 4 + 2, none⟩ (.int .i64 p.1.num_)).setCell ⟨g, n * 4 + 3, none⟩ (.slice p.2.p p.1.kids_.length p.2.c)) = W := ⟨_, rfl⟩
 have ht : Turns (fun k => k = g) w W := by
  rw [← hW]
  exact ((((Turns.refl (fun k => k = g) w).setCell ⟨g, n * 4, none⟩ _ (.inl rfl)).setCell ⟨g, n * 4 + 1, none⟩ _ (.inl rfl)).setCell ⟨g, n * 4 + 2, none⟩ _ (.inl rfl)).setCell ⟨g, n * 4 + 3, none⟩ _ (.inl rfl)
 have hown := h.lits.own
 have hll : (ps ++ [p0]).length = n + 1 := by rw [List.length_append, hn]; rfl
 rw [hll, show (ps ++ [p0]).flatMap lpC = ps.flatMap lpC ++ lpC p0 by simp] at hown
 have hn4 := own4 hown (by rw [flat_len lpC_len, hn]) (.int .i64 p.1.kind_) (.string p.1.text_) (.int .i64 p.1.num_) (.slice p.2.p p.1.kids_.length p.2.c)
 rw [hW] at hn4 ⊢
 obtain ⟨n1, n2⟩ := h.ne
 have hgl := h.lvP g rfl
 have hgc := n1 g rfl
 have hnD : ∀ k, D k ∨ Dl k → ¬ k = g := fun k hk e => hk.elim (fun z => hgl.2 (e ▸ z)) (fun z => (hD k z).1 e)
 obtain ⟨curg, hcg⟩ := own_type h.lits.own (v := .slice (some ⟨g, 0, none⟩) (n + 1) c) rfl
 refine ⟨⟨?_, ⟨?_, fun x hx => ?_⟩, ?_, ?_, ?_, ?_, h.cbP, fun k hk => ?_, h.cvP, fun k hk => ?_, fun k hk => ?_, ?_, h.low, fun k hk => Nat.lt_of_lt_of_le (h.lim k hk) ht.size, ?_⟩, ?_⟩
 ·subst hs2; exact (ht.block cb (lt_of_block h.box) (fun e => hgc.1 e.symm)).trans h.box
 ·rw [List.length_append, hn, show (ps ++ [p]).flatMap lpC = ps.flatMap lpC ++ lpC p by simp]; exact hn4
 ·rcases List.mem_append.1 hx with q | q
  ·exact (h.lits.lits x (List.mem_append_left _ q)).same ht.size (fun b hb hl => ht.block b hl (hnD b (.inl hb))) (fun _ z => .inl z)
  ·rw [List.mem_singleton.1 q]
   exact hp.same ht.size (fun b hb hl => ht.block b hl (hnD b (.inr hb))) (fun _ z => .inr z)
 ·subst hs2; rfl
 ·subst hs2; exact ownsRow_same h.code ht.size (fun k hk => ht.block k (World.ownsRow.lt h.code k hk).2 (fun e => hgc.2 (e ▸ hk)))
 ·subst hs2
  refine h.names.same ht.size (fun k hk => ht.block k (h.names.lt hk) (fun e => ?_)) (fun _ _ z => z)
  obtain ⟨cur, hc⟩ := h.names.type hk
  rw [e, hcg] at hc; simp at hc
 ·subst hs2; exact h.nok
 ·cases hk
  exact ⟨hgl.1, fun z => hnD g z rfl⟩
 ·rcases hk with z | z
  ·exact ⟨Nat.lt_of_lt_of_le (h.dlt k z).1 ht.size, (h.dlt k z).2⟩
  ·obtain ⟨cur, hc⟩ := (hD k z).2
   exact ⟨Nat.lt_of_lt_of_le (lt_of_block hc) ht.size, fun e => by rw [e, h.box] at hc; simp at hc⟩
 ·have : ∃ cur, w.heap[k]? = some (.cells cur 40 (0, 0)) := hk.elim (fun z => h.dty k z) (fun z => (hD k z).2)
  obtain ⟨cur, hc⟩ := this
  exact ⟨cur, (ht.block k (lt_of_block hc) (hnD k hk)).trans hc⟩
 ·refine h.stat.trans (ht.below (fun k q => ?_) h.stat.size)
  rcases Nat.lt_or_ge k w0.heap.size with z | z
  ·exact absurd (q ▸ h.low k z) hgl.1
  ·exact z
 ·subst hs2; exact h.enm
 ·exact ht.mono (fun k _ q => by rw [q]; exact hgl.1)
/-- the append of a literal, as one step -/
theorem step_lit {ops : Array Oper} {o : Oper} {a : Act} {K : Act → World → Prop} {Q : Exit → Act → World → Prop} {E : Prop} (hgd : o.guard = none) (sl x : Operand)
  (hop : o.op = .call { callee := .builtin .append, args := #[sl, x], argTypes := #[30, 30] }) {w0 w : World} {P : Nat → Prop} {cb : Nat} {m : MK} {s : CSt} {lv cv nv : Value} {D : Nat → Prop} {ps : List LP} (h : CY w0 P w cb m s lv cv nv D ps) (hs : a.eval sl = lv) {G : Nat} (hx : a.eval x = .slice (some ⟨G, 0, none⟩) 1 1) (p : LP)
  {Dl : Nat → Prop} (hp : IsLt w Dl p.1 p.2) (hD : ∀ k, Dl k → lv.ownBlock ≠ some k ∧ ∃ cur, w.heap[k]? = some (.cells cur 40 (0, 0))) (hG : w.heap[G]? = some (.cells #[.int .i64 p.1.kind_, .string p.1.text_, .int .i64 p.1.num_, .slice p.2.p p.1.kids_.length p.2.c] 40 (0, 0))) (hle : ps.length ≤ 100000)
  (hK : ∀ lv' w', Litted w0 P w w' cb m s lv cv nv D ps lv' Dl p → K (a.put o.dst lv') w') : if Region.wanted o (yielded ops a.tmps) = true then Oper.wp Try.prog o a w K Q else E := by
 obtain ⟨i0, hi, hz0, hz1, hz2⟩ := info_parts infoL
 have hone : ∀ u ∈ lpC p, u.oneCell' = true := fun u hu => by
  unfold lpC ltC at hu
  simp only [List.mem_cons, List.not_mem_nil, or_false] at hu
  rcases hu with rfl | rfl | rfl | rfl <;> rfl
 rw [if_pos (by simp [Region.wanted, hgd])]
 obtain ⟨v', w', hr, h2, h3, _, h5⟩ := run_append_own_at (P := Try.prog) w 0 30 o.type 40 i0 (.agg #[.int .i64 0, .string eB, .int .i64 0, .slice none 0 0]) 4 56 Try.underlying30 hi hz0 hz1 hz2 rfl (by decide) lv ps.length _ h.lits.own ⟨G, 0, none⟩ 1 1 (lpC p) rfl (cells_block hG) hone (by unfold maxLen; omega) (by omega) (Nat.zero_le _)
 unfold Oper.wp execOp
 simp only [hop, resolve, invoke, builtin, Sem.run_bind, Sem.run_pure, Result.andThen_ok, List.map_toArray, List.map_cons, List.map_nil, hs, hx, hr]
 exact hK _ _ (h.litted p hp hD h2 h3 h5)
set_option maxRecDepth 100000 in
set_option maxHeartbeats 16000000 in
theorem literal_any {w0 w : World} {P : Nat → Prop} {cb : Nat} {m : MK} {s : CSt} {lv cv nv : Value} {D : Nat → Prop} {ps : List LP} (h : CY w0 P w cb m s lv cv nv D ps) {l : LitT} {q : LS} {Dl : Nat → Prop} (hl : IsLt w Dl l q) (hD : ∀ k, Dl k → lv.ownBlock ≠ some k ∧ ∃ cur, w.heap[k]? = some (.cells cur 40 (0, 0))) (hle : s.lits.length ≤ 100000) :
  Calls Try.prog 55 #[.pointer (some ⟨cb, 0, none⟩), ltV l q] w fun e w' => e = .returned (.int .i64 ((placeP s l).1 : Int)) ∧ (∃ lv' D' ps', CY w0 P w' cb m (placeP s l).2 lv' cv nv D' ps') ∧ Turns (outP P) w w' := by
 obtain ⟨A, c, hlv, hcl, hcm⟩ := own_slice h.lits.own
 subst hlv
 obtain ⟨n, hn⟩ : ∃ n, ps.length = n := ⟨_, rfl⟩
 have HN := Lib.hid hn
 have hln : s.lits.length = n := by rw [← h.lps, List.length_map, hn]
 have HLN := Lib.hid hln
 have h' : CY w0 P w cb m s (.slice A n c) cv nv D ps := by rw [← hn]; exact h
 have hD' : ∀ k, Dl k → (Value.slice A n c).ownBlock ≠ some k ∧ ∃ cur, w.heap[k]? = some (.cells cur 40 (0, 0)) := by rw [← hn]; exact hD
 have HY := Lib.hid h'
 have HD := Lib.hid hD'
 have HLR : Hid (LitRow w D (.slice A n c) ps) := Lib.hid h'.lits
 have HIL := Lib.hid hl
 have k4 : w.cell? ⟨cb, 4, none⟩ = some (.slice A n c) := by rw [h'.cell]; rfl
 have hcb := lt_of_block h'.box
 have HWB : Hid (Below w.heap.size w (w.alloc (.cells #[.int .i64 l.kind_, .string l.text_, .int .i64 l.num_, .slice q.p l.kids_.length q.c] 40))) := Lib.hid ((Below.refl _ _).alloc (Nat.le_refl _) _)
 have HBX : Hid ((w.alloc (.cells #[.int .i64 l.kind_, .string l.text_, .int .i64 l.num_, .slice q.p l.kids_.length q.c] 40)).heap[w.heap.size]? = some (.cells #[.int .i64 l.kind_, .string l.text_, .int .i64 l.num_, .slice q.p l.kids_.length q.c] 40 (0, 0))) := Lib.hid (heap_alloc_new w _)
 obtain ⟨o, ho⟩ : ∃ o, (ps.map Prod.fst).findIdx? (fun k => sameL k l) = o := ⟨_, rfl⟩
 have HO := Lib.hid ho
 have hpl : placeP s l = placeO o s l := by rw [← ho, h.lps]; rfl
 rw [hln] at hle
 clear h h' hD hD' hl hn hln ho hcl hcm
 unfold ltV
 cases o with
 | some i =>
  have HP : Hid (placeP s l = (i, s)) := Lib.hid hpl
  clear hpl
  go_enter Try.func55, Try.ntmps55
  go_wp2_with (first | (go_at_call 66; (with_reducible refine (index_lits (HLR.out.same HWB.out.size (fun k hk => HWB.out.block k (World.ownsRow.lt HLR.out.own k hk).2) (fun b _ hb => HWB.out.block b hb) (fun _ z => z)) HN.out (by omega) HBX.out (HIL.out.under HWB.out)).mono ?_); rw [HO.out]; rintro e w1 ⟨rfl, hb1⟩; unfold idxV; have HB1 := Lib.hid (HWB.out.trans (hb1.mono HWB.out.size)); have hbx1 := (hb1.block w.heap.size (by simp)).trans HBX.out; have HBX1 := Lib.hid hbx1; have q0 : w1.cell? ⟨w.heap.size, 0, none⟩ = some (.int .i64 l.kind_) := (by simp [World.cell?, hbx1]); have q1 : w1.cell? ⟨w.heap.size, 1, none⟩ = some (.string l.text_) := (by simp [World.cell?, hbx1]); have q2 : w1.cell? ⟨w.heap.size, 2, none⟩ = some (.int .i64 l.num_) := (by simp [World.cell?, hbx1]); have q3 : w1.cell? ⟨w.heap.size, 3, none⟩ = some (.slice q.p l.kids_.length q.c) := (by simp [World.cell?, hbx1]); have k4' : w1.cell? ⟨cb, 4, none⟩ = some (.slice A n c) := (HB1.out.cell (p := ⟨cb, 4, none⟩) hcb).trans k4; clear hb1 hbx1))
  go_ret
  rw [HP.out]
  exact ⟨rfl, ⟨_, D, ps, HY.out.below HB1.out (fun _ z => z) (fun _ z => .inl z)⟩, Turns.of_below HB1.out⟩
 | none =>
  have HP : Hid (placeP s l = (n, { s with lits := s.lits ++ [l] })) := Lib.hid (by rw [hpl, ← HLN.out]; rfl)
  clear hpl
  go_enter Try.func55, Try.ntmps55
  go_upto_region 4 with (first | (go_at_call 66; (with_reducible refine (index_lits (HLR.out.same HWB.out.size (fun k hk => HWB.out.block k (World.ownsRow.lt HLR.out.own k hk).2) (fun b _ hb => HWB.out.block b hb) (fun _ z => z)) HN.out (by omega) HBX.out (HIL.out.under HWB.out)).mono ?_); rw [HO.out]; rintro e w1 ⟨rfl, hb1⟩; unfold idxV; have HB1 := Lib.hid (HWB.out.trans (hb1.mono HWB.out.size)); have hbx1 := (hb1.block w.heap.size (by simp)).trans HBX.out; have HBX1 := Lib.hid hbx1; have q0 : w1.cell? ⟨w.heap.size, 0, none⟩ = some (.int .i64 l.kind_) := (by simp [World.cell?, hbx1]); have q1 : w1.cell? ⟨w.heap.size, 1, none⟩ = some (.string l.text_) := (by simp [World.cell?, hbx1]); have q2 : w1.cell? ⟨w.heap.size, 2, none⟩ = some (.int .i64 l.num_) := (by simp [World.cell?, hbx1]); have q3 : w1.cell? ⟨w.heap.size, 3, none⟩ = some (.slice q.p l.kids_.length q.c) := (by simp [World.cell?, hbx1]); have k4' : w1.cell? ⟨cb, 4, none⟩ = some (.slice A n c) := (HB1.out.cell (p := ⟨cb, 4, none⟩) hcb).trans k4; clear hb1 hbx1))
  go_cut [22] (fun v wx => ∃ tb : Bool, v = .bool tb ∧ Below w1.heap.size w1 wx)
  case first =>
   go_region
   all_goals
    go_wp2_with fail
    go_meet
    exact ⟨_, rfl, bel⟩
  case rest =>
   obtain ⟨tb, rfl, hbc⟩ := hcut
   have hB := HB1.out.trans (hbc.mono HB1.out.size)
   have HBC := Lib.hid hB
   have hy2 := HY.out.below hB (fun _ z => z) (fun _ z => .inl z)
   have HY2 := Lib.hid hy2
   have f4 := hy2.free 4
   have x4 : wc.cell? ⟨cb, 4, none⟩ = some (.slice A n c) := by rw [hy2.cell]; rfl
   have hbx2 := (hbc.block w.heap.size (lt_of_block HBX1.out)).trans HBX1.out
   have x0 : wc.cell? ⟨w.heap.size, 0, none⟩ = some (.int .i64 l.kind_) := by simp [World.cell?, hbx2]
   have x1 : wc.cell? ⟨w.heap.size, 1, none⟩ = some (.string l.text_) := by simp [World.cell?, hbx2]
   have x2 : wc.cell? ⟨w.heap.size, 2, none⟩ = some (.int .i64 l.num_) := by simp [World.cell?, hbx2]
   have x3 : wc.cell? ⟨w.heap.size, 3, none⟩ = some (.slice q.p l.kids_.length q.c) := by simp [World.cell?, hbx2]
   have HBX2 := Lib.hid hbx2
   have HI2 := Lib.hid (HIL.out.under hB)
   have HD2 : Hid (∀ k, Dl k → (Value.slice A n c).ownBlock ≠ some k ∧ ∃ cur, wc.heap[k]? = some (.cells cur 40 (0, 0))) := Lib.hid (fun k hk => ⟨(HD.out k hk).1, by
    obtain ⟨cur, hc⟩ := (HD.out k hk).2
    exact ⟨cur, (hB.block k (lt_of_block hc)).trans hc⟩⟩)
   clear q0 q1 q2 q3 k4 k4' hbx2 hy2 hB hbc
   cases tb with
   | false =>
    go_upto_region 7 with fail
    have HYA : Hid (CY w0 P (wc.drew.alloc (.cells #[.int .i64 l.kind_, .string l.text_, .int .i64 l.num_, .slice q.p l.kids_.length q.c] 40)) cb m s (.slice A n c) cv nv D ps) := Lib.hid (HY2.out.below ((Below.drew (Below.refl _ _)).alloc (Nat.le_refl _) _) (fun _ z => z) (fun _ z => .inl z))
    have hba : Below wc.heap.size wc (wc.drew.alloc (.cells #[.int .i64 l.kind_, .string l.text_, .int .i64 l.num_, .slice q.p l.kids_.length q.c] 40)) := (Below.drew (Below.refl _ _)).alloc (Nat.le_refl _) _
    have HIA := Lib.hid (HI2.out.under hba)
    have HDA : Hid (∀ k, Dl k → (Value.slice A n c).ownBlock ≠ some k ∧ ∃ cur, (wc.drew.alloc (.cells #[.int .i64 l.kind_, .string l.text_, .int .i64 l.num_, .slice q.p l.kids_.length q.c] 40)).heap[k]? = some (.cells cur 40 (0, 0))) := Lib.hid (fun k hk => ⟨(HD2.out k hk).1, by
     obtain ⟨cur, hc⟩ := (HD2.out k hk).2
     exact ⟨cur, (hba.block k (lt_of_block hc)).trans hc⟩⟩)
    have HGA : Hid ((wc.drew.alloc (.cells #[.int .i64 l.kind_, .string l.text_, .int .i64 l.num_, .slice q.p l.kids_.length q.c] 40)).heap[wc.heap.size]? = some (.cells #[.int .i64 l.kind_, .string l.text_, .int .i64 l.num_, .slice q.p l.kids_.length q.c] 40 (0, 0))) := Lib.hid (heap_alloc_new wc.drew _)
    have HBA := Lib.hid hba
    clear hba
    have x4a : (wc.alloc (.cells #[.int .i64 l.kind_, .string l.text_, .int .i64 l.num_, .slice q.p l.kids_.length q.c] 40)).cell? ⟨cb, 4, none⟩ = some (.slice A n c) := Lib.cell?_alloc_marked _ x4
    go_region_law (first | (refine step_lit rfl _ _ rfl HYA.out (by simp [Act.eval, Act.put]) (G := wc.heap.size) (by simp [Act.eval, Act.put]) (l, q) HIA.out HDA.out HGA.out (by have := HN.out; omega) ?_; intro lv5 w5 hna; have HNA := Lib.hid hna; obtain ⟨g5, c5, hlv5, _⟩ := hna.sl; rw [HN.out] at hlv5; subst hlv5; have s4 : w5.cell? ⟨cb, 4, none⟩ = some (.slice A n c) := (by simp [World.cell?, hna.box, boxC]); have sf4 : w5.frozen? ⟨cb, 4, none⟩ = false := (by simp [World.frozen?, hna.box]); clear hna))
    all_goals
     go_wp2_with fail
     go_ret
     rw [HP.out]
     exact ⟨rfl, ⟨_, _, _, HNA.out.cy⟩, ((Turns.of_below HBC.out).trans (Turns.of_below HBA.out)).trans HNA.out.ts⟩
   | true =>
    obtain ⟨i0, hi, hz0, hz1, hz2⟩ := info_parts infoL
    have hba : Below wc.heap.size wc (wc.alloc (.cells #[.int .i64 0, .string eB, .int .i64 0, .slice none 0 0] 40)) := (Below.refl _ _).alloc (Nat.le_refl _) _
    have HYA : Hid (CY w0 P (wc.alloc (.cells #[.int .i64 0, .string eB, .int .i64 0, .slice none 0 0] 40)) cb m s (.slice A n c) cv nv D ps) := Lib.hid (HY2.out.below hba (fun _ z => z) (fun _ z => .inl z))
    have HOA : Hid ((wc.alloc (.cells #[.int .i64 0, .string eB, .int .i64 0, .slice none 0 0] 40)).ownsRow 0 40 4 (.slice A n c) n (ps.flatMap lpC)) := Lib.hid (by rw [← HN.out]; have := HYA.out.lits.own; rw [HN.out] at this ⊢; exact this)
    have HGA : Hid ((wc.alloc (.cells #[.int .i64 0, .string eB, .int .i64 0, .slice none 0 0] 40)).heap[wc.heap.size]? = some (.cells #[.int .i64 0, .string eB, .int .i64 0, .slice none 0 0] 40 (0, 0))) := Lib.hid (heap_alloc_new wc _)
    have HBA := Lib.hid hba
    have hwl : w.heap.size < wc.heap.size := by
     have h1 := cell_lt x0
     exact h1
    clear hba
    have hfbW : Hid (∃ fr, wc.heap[w.heap.size]? = some (.cells #[.int .i64 l.kind_, .string l.text_, .int .i64 l.num_, .slice q.p l.kids_.length q.c] 40 fr)) := Lib.hid ⟨(0, 0), HBX2.out⟩
    go_upto_region 6 with (first | (at_builtin; refine wpList_append_own_at _ rfl _ _ 30 rfl 0 40 i0 (.agg #[.int .i64 0, .string eB, .int .i64 0, .slice none 0 0]) 4 56 Try.underlying30 hi hz0 hz1 hz2 rfl (by decide) _ _ _ rfl HOA.out ⟨wc.heap.size, 0, none⟩ 1 1 [.int .i64 0, .string eB, .int .i64 0, .slice none 0 0] rfl rfl (cells_block HGA.out) (by simp [Value.oneCell']) (by unfold maxLen; omega) (by omega) (Nat.zero_le _) ?_; intro v5 w5 hown hg _ hat; have hna := HYA.out.litted (w' := w5) (lv' := v5) (LitT.node 0 eB 0 [], ⟨none, 0⟩) (Dl := fun _ => False) (IsLt.leaf _ _ ⟨by decide, by decide⟩ ⟨by decide, by decide⟩ (Nat.zero_le _)) (fun k z => z.elim) (by rw [HN.out]; exact hown) hg hat; obtain ⟨g5, c5, hv5, hg5⟩ := hna.sl; rw [HN.out] at hv5; subst hv5; have hgf : g5 ≠ w.heap.size := (by rcases hat with z | z; exact (fun e => by have h8 := (World.ownsRow.lt HLR.out.own g5 z.symm).2; omega); exact (fun e => by have h9 : g5 = (wc.alloc (.cells #[.int .i64 0, .string eB, .int .i64 0, .slice none 0 0] 40)).heap.size := Option.some.inj z; rw [World.size_alloc] at h9; omega)); have s4 : w5.cell? ⟨cb, 4, none⟩ = some (.slice A n c) := (by simp [World.cell?, hna.box, boxC]); have sf4 : w5.frozen? ⟨cb, 4, none⟩ = false := (by simp [World.frozen?, hna.box]); have HAT : Hid ((Value.slice A n c).ownBlock = some g5 ∨ g5 = (wc.alloc (.cells #[.int .i64 0, .string eB, .int .i64 0, .slice none 0 0] 40)).heap.size) := Lib.hid (hat.imp (fun z => z.symm) (fun z => Option.some.inj z)); have HNA := Lib.hid hna; obtain ⟨W6, hW6⟩ : ∃ W6, W6 = w5.setCell ⟨cb, 4, none⟩ (.slice (some ⟨g5, 0, none⟩) (n + 1) c5) := ⟨_, rfl⟩; have HW6 := Lib.hid hW6; have HG5 := Lib.hid hg; clear hna hown hg hat hW6))
    rw [← HW6.out]
    have hcy := HNA.out.cy
    rw [← HW6.out] at hcy
    obtain ⟨cur6, hh6⟩ := own_type hcy.lits.own (v := .slice (some ⟨g5, 0, none⟩) (n + 1) c5) rfl
    have own6 := hcy.lits.own
    have hll : (ps ++ [((LitT.node 0 eB 0 [], ⟨none, 0⟩) : LP)]).length = n + 1 := by rw [List.length_append, HN.out]; rfl
    rw [hll] at own6
    have hcl6 : ∀ j, j < 4 → W6.cell? ⟨g5, n * 4 + j, none⟩ = (lpC ((LitT.node 0 eB 0 [], ⟨none, 0⟩) : LP))[j]? := fun j hj => by
     rw [World.ownsRow.cellAt own6 (n * 4 + j) (by omega), flat_at lpC_len _ n j (by rw [hll]; omega) hj]
     congr 1
     rw [List.getElem_append_right (by rw [HN.out]; omega)]
     simp
    have z0 : W6.cell? ⟨g5, n * 4, none⟩ = some (.int .i64 0) := hcl6 0 (by omega)
    have z1 : W6.cell? ⟨g5, n * 4 + 1, none⟩ = some (.string eB) := hcl6 1 (by omega)
    have z2 : W6.cell? ⟨g5, n * 4 + 2, none⟩ = some (.int .i64 0) := hcl6 2 (by omega)
    have z3 : W6.cell? ⟨g5, n * 4 + 3, none⟩ = some (.slice none 0 0) := hcl6 3 (by omega)
    have fz : ∀ j, W6.frozen? ⟨g5, j, none⟩ = false := fun j => by simp [World.frozen?, hh6]
    have fz0 := fz (n * 4)
    have fz1 := fz (n * 4 + 1)
    have fz2 := fz (n * 4 + 2)
    have fz3 := fz (n * 4 + 3)
    have hb6 : W6.heap[w.heap.size]? = some (.cells #[.int .i64 l.kind_, .string l.text_, .int .i64 l.num_, .slice q.p l.kids_.length q.c] 40 (0, 0)) := by
     rw [HW6.out, Below.heap_setCell _ _ _ _ (fun e => by simp at e; omega)]
     refine (HG5.out.block w.heap.size (by simp; omega) (fun e => ?_)).trans ((HBA.out.block w.heap.size hwl).trans HBX2.out)
     have h8 := (World.ownsRow.lt HLR.out.own w.heap.size e.symm).2
     omega
    have y0 : W6.cell? ⟨w.heap.size, 0, none⟩ = some (.int .i64 l.kind_) := by simp [World.cell?, hb6]
    have y1 : W6.cell? ⟨w.heap.size, 1, none⟩ = some (.string l.text_) := by simp [World.cell?, hb6]
    have y2 : W6.cell? ⟨w.heap.size, 2, none⟩ = some (.int .i64 l.num_) := by simp [World.cell?, hb6]
    have y3 : W6.cell? ⟨w.heap.size, 3, none⟩ = some (.slice q.p l.kids_.length q.c) := by simp [World.cell?, hb6]
    have hT6 : Turns (outP P) (wc.alloc (.cells #[.int .i64 0, .string eB, .int .i64 0, .slice none 0 0] 40)) W6 := by have := HNA.out.ts; rw [← HW6.out] at this; exact this
    have hDcb : ∀ b, Dl b → b ≠ cb := fun b hb e => by
     obtain ⟨cur, hc⟩ := (HD2.out b hb).2
     rw [e, HY2.out.box] at hc; simp at hc
    have hDk : ∀ b, Dl b → b < (wc.alloc (.cells #[.int .i64 0, .string eB, .int .i64 0, .slice none 0 0] 40)).heap.size → W6.heap[b]? = (wc.alloc (.cells #[.int .i64 0, .string eB, .int .i64 0, .slice none 0 0] 40)).heap[b]? := fun b hb hl => by
     rw [HW6.out, Below.heap_setCell _ _ _ _ (hDcb b hb)]
     exact HG5.out.block b hl (fun e => (HD2.out b hb).1 e.symm)
    have hDl : ∀ b, Dl b → b < wc.heap.size := fun b hb => lt_of_block (HD2.out b hb).2.choose_spec
    have HD6 : Hid (∀ k, Dl k → k ≠ g5 ∧ ∃ cur, W6.heap[k]? = some (.cells cur 40 (0, 0))) := Lib.hid (fun k hk => ⟨fun e => by
     rcases HAT.out with z | z
     ·exact (HD2.out k hk).1 (by rw [z, e])
     ·have := hDl k hk; rw [e, z, World.size_alloc] at this; omega, by
     obtain ⟨cur, hc⟩ := (HD2.out k hk).2
     exact ⟨cur, (hDk k hk (by rw [World.size_alloc]; have := hDl k hk; omega)).trans ((HBA.out.block k (hDl k hk)).trans hc)⟩⟩)
    have hI6 : IsLt W6 Dl l q := (HI2.out.under HBA.out).same hT6.size hDk (fun _ z => z)
    have HCY := Lib.hid hcy
    have HT6 := Lib.hid hT6
    have HI6 := Lib.hid hI6
    have g0 : (0 : Int) ≤ (n : Int) := by omega
    have g1 : (n : Int) < (n : Int) + 1 := by omega
    clear hcy own6 hh6 hcl6 fz hb6 hT6 hI6 hll hDcb hDk hDl
    go_wp2_with fail
    go_ret
    rw [HP.out]
    have hfx := CY.fix (lv := .slice none 0 0) (p := (l, q)) (s2 := { s with lits := s.lits ++ [l] }) HCY.out HN.out HI6.out HD6.out (by rw [List.map_append, HY.out.lps]; rfl)
    exact ⟨rfl, ⟨_, _, _, hfx.1⟩, (((Turns.of_below HBC.out).trans (Turns.of_below HBA.out)).trans HT6.out).trans hfx.2⟩
theorem place_keep (s : CSt) (l : LitT) : (placeP s l).2.names = s.names ∧ (placeP s l).2.temps = s.temps ∧ (placeP s l).2.code = s.code ∧ (placeP s l).2.err = s.err ∧ (placeP s l).2.ename = s.ename ∧ (placeP s l).2.lits.length ≤ s.lits.length + 1 ∧ (placeP s l).1 ≤ s.lits.length := by
 unfold placeP
 cases h : s.lits.findIdx? (fun k => sameL k l) with
 | some i =>
  rw [List.findIdx?_eq_some_iff_getElem] at h
  exact ⟨rfl, rfl, rfl, rfl, rfl, Nat.le_succ _, Nat.le_of_lt h.1⟩
 | none => exact ⟨rfl, rfl, rfl, rfl, rfl, by simp, Nat.le_refl _⟩
set_option maxRecDepth 100000 in
set_option maxHeartbeats 16000000 in
theorem symbol_any {w0 w : World} {P : Nat → Prop} {cb : Nat} {m : MK} {s : CSt} (h : CX w0 P w cb m s) (t : ByteArray) (ht : t.size ≤ big63) (hle : s.lits.length ≤ 100000) : Calls Try.prog 70 #[.pointer (some ⟨cb, 0, none⟩), .string t] w fun e w' => e = .returned (.int .i64 ((symP s t).1 : Int)) ∧ CT w0 P w w' cb m (symP s t).2 := by
 obtain ⟨lv, cv, nv, D, ps, hy, hfw⟩ := h
 have hli := literal_any hy (l := .node 3 t 0 []) (q := ⟨none, 0⟩) (Dl := fun _ => False) (IsLt.leaf _ _ ⟨by decide, by decide⟩ ⟨by decide, by decide⟩ ht) (fun k z => z.elim) hle
 have hk := place_keep s (.node 3 t 0 [])
 have HK := Lib.hid hk
 have HL := Lib.hid hli
 have HFW := Lib.hid hfw
 show Calls Try.prog 70 #[.pointer (some ⟨cb, 0, none⟩), .string t] w fun e w' => e = .returned (.int .i64 ((placeP s (.node 3 t 0 [])).1 : Int)) ∧ CT w0 P w w' cb m (placeP s (.node 3 t 0 [])).2
 unfold ltV at HL
 simp only [LitT.kind_, LitT.text_, LitT.num_, LitT.kids_, List.length_nil] at HL
 clear hli hy hfw hk
 go_enter Try.func70, Try.ntmps70
 go_wp2_with (go_at_call 55; (with_reducible refine HL.out.mono ?_); rintro e w3 ⟨rfl, hcy, htu⟩; have HC := Lib.hid (And.intro hcy htu); clear hcy htu)
 go_ret
 obtain ⟨⟨lv', D', ps', hc⟩, htu⟩ := HC.out
 exact ⟨rfl, ⟨lv', cv, nv, D', ps', hc, by rw [HK.out.2.1, HK.out.1]; exact HFW.out⟩, htu⟩
theorem symbol_at {w0 ws w1 w : World} {P : Nat → Prop} {cb : Nat} {m : MK} {s : CSt} (h : CT w0 P ws w1 cb m s) (hb : Below w1.heap.size w1 w) (t : ByteArray) (ht : t.size ≤ big63) (hle : s.lits.length ≤ 100000) : Calls Try.prog 70 #[.pointer (some ⟨cb, 0, none⟩), .string t] w fun e w' => e = .returned (.int .i64 ((symP s t).1 : Int)) ∧ CT w0 P ws w' cb m ((symP s t).2) := by
 have h2 := h.below hb
 refine (symbol_any h2.1 t ht hle).mono ?_
 rintro e w' ⟨he, hc⟩
 exact ⟨he, h2.go hc⟩
end Go.Proofs.Ytnojndgmgkgnpaa

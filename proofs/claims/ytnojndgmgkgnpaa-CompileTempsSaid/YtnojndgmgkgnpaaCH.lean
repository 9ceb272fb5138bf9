/- Chapter 10: a node's literal. -/
import Derived.Test.YtnojndgmgkgnpaaCG
namespace Go.Proofs.Ytnojndgmgkgnpaa
open Go.ChangeShapes Go.WideShapes Go.ChangeAt Go.RowKit Go.Deep Go.Joins Go.Maps
set_option linter.unusedVariables false
set_option linter.unusedSimpArgs false
/-- rows of literals that were made between two worlds -/
def madeL (w w' : World) (k : Nat) : Prop := w.heap.size ≤ k ∧ k < w'.heap.size ∧ ∃ cur, w'.heap[k]? = some (.cells cur 40 (0, 0))
def LitPost (w0 w : World) (P : Nat → Prop) (cb : Nat) (m : MK) (lv cv nv : Value) (D : Nat → Prop) (ps : List LP) (l : LitT) (s' : CSt) (e : Ending) (w' : World) : Prop :=
 ∃ q, e = .returned (ltV l q) ∧ CY w0 P w' cb m s' lv cv nv D ps ∧ IsLt w' (madeL w w') l q ∧ Turns (fun k => k = cb) w w'
theorem CY.under {w0 w : World} {P : Nat → Prop} {cb : Nat} {m : MK} {s : CSt} {lv cv nv : Value} {D : Nat → Prop} {ps : List LP} {w' : World} (h : CY w0 P w cb m s lv cv nv D ps) (hb : Below w.heap.size w w') : CY w0 P w' cb m s lv cv nv D ps := h.below hb (fun _ z => z) (fun _ z => .inl z)
theorem CY.apart {w0 w : World} {P : Nat → Prop} {cb : Nat} {m : MK} {s : CSt} {lv cv nv : Value} {D : Nat → Prop} {ps : List LP} {w' : World} (h : CY w0 P w cb m s lv cv nv D ps) {T : Nat → Prop} (ht : Turns T w w') (hT : ∀ k, T k → k ≠ cb ∧ lv.ownBlock ≠ some k ∧ cv.ownBlock ≠ some k ∧ nv.ownBlock ≠ some k ∧ ¬ D k ∧ w0.heap.size ≤ k) : CY w0 P w' cb m s lv cv nv D ps := by
 refine ⟨(ht.block cb (lt_of_block h.box) (fun q => (hT cb q).1 rfl)).trans h.box, h.lits.same ht.size (fun k hk => ht.block k (World.ownsRow.lt h.lits.own k hk).2 (fun q => (hT k q).2.1 hk)) (fun b hb hl => ht.block b hl (fun q => (hT b q).2.2.2.2.1 hb)) (fun _ z => z), h.lps, ownsRow_same h.code ht.size (fun k hk => ht.block k (World.ownsRow.lt h.code k hk).2 (fun q => (hT k q).2.2.1 hk)), h.names.same ht.size (fun k hk => ht.block k (h.names.lt hk) (fun q => (hT k q).2.2.2.1 hk)) (fun _ _ z => z), h.nok, h.cbP, h.lvP, h.cvP, fun k hk => ⟨Nat.lt_of_lt_of_le (h.dlt k hk).1 ht.size, (h.dlt k hk).2⟩, fun k hk => ?_, h.stat.trans (ht.below (fun k q => (hT k q).2.2.2.2.2) h.stat.size), h.low, fun k hk => Nat.lt_of_lt_of_le (h.lim k hk) ht.size, h.enm⟩
 obtain ⟨cur, hc⟩ := h.dty k hk
 exact ⟨cur, (ht.block k (lt_of_block hc) (fun q => (hT k q).2.2.2.2.1 hk)).trans hc⟩
theorem CY.fresh {w0 w : World} {P : Nat → Prop} {cb : Nat} {m : MK} {s : CSt} {lv cv nv : Value} {D : Nat → Prop} {ps : List LP} (h : CY w0 P w cb m s lv cv nv D ps) {k : Nat} (hk : w.heap.size ≤ k) : k ≠ cb ∧ lv.ownBlock ≠ some k ∧ cv.ownBlock ≠ some k ∧ nv.ownBlock ≠ some k ∧ ¬ D k ∧ w0.heap.size ≤ k :=
 ⟨fun e => by have := lt_of_block h.box; omega, fun e => by have := (World.ownsRow.lt h.lits.own k e).2; omega, fun e => by have := (World.ownsRow.lt h.code k e).2; omega, fun e => by have := h.names.lt e; omega, fun e => by have := (h.dlt k e).1; omega, Nat.le_trans h.stat.size hk⟩
theorem kids_le (x : NodT) : x.kids.length < x.size := by
 have h : ∀ l : List NodT, l.length ≤ NodT.sizes l := fun l => by
  induction l with
  | nil => simp [NodT.sizes]
  | cons a l ih => simp only [NodT.sizes, List.length_cons]; have := a.size_pos; omega
 have h1 := h x.kids
 rw [NodT.size_kids x]
 omega
theorem leaf_post {w0 w : World} {P : Nat → Prop} {cb : Nat} {m : MK} {s : CSt} {lv cv nv : Value} {D : Nat → Prop} {ps : List LP} {w' : World} (h : CY w0 P w cb m s lv cv nv D ps) (hb : Below w.heap.size w w') {k n : Int} {t : ByteArray} (hk : InI k) (hn : InI n) (ht : t.size ≤ big63) : LitPost w0 w P cb m lv cv nv D ps (.node k t n []) s (.returned (.agg #[.int .i64 k, .string t, .int .i64 n, .slice none 0 0])) w' :=
 ⟨⟨none, 0⟩, rfl, h.under hb, IsLt.leaf _ _ hk hn ht, Turns.of_below hb⟩
theorem InI0 : InI 0 := ⟨by decide, by decide⟩
def leafS (l : LitT) (n : Int) : Prop := True
/-- an array's literals under way -/
structure AR (w0 w : World) (P : Nat → Prop) (cb : Nat) (m : MK) (lv cv nv : Value) (D : Nat → Prop) (ps : List LP) (rp : List LP) (v : Value) (sk : CSt) (wr : World) : Prop where
 cy : CY w0 P wr cb m sk lv cv nv D ps
 ts : Turns (fun k => k = cb) w wr
 ob : wr.heap[w.heap.size + 2]? = some (.cells #[.int .i64 4, .string eB, .int .i64 0, v] 40 (0, 0))
 tb : wr.heap[w.heap.size + 1]? = some (.cells #[.int .i64 0, .string eB, .int .i64 0, .slice none 0 0] 40 (0, 0))
 own : wr.ownsRow (w.heap.size + 3) 40 4 v rp.length (rp.flatMap lpC)
 lits : ∀ p, p ∈ rp → IsLt wr (fun k => w.heap.size + 3 ≤ k ∧ k < wr.heap.size ∧ v.ownBlock ≠ some k ∧ k ≠ cb ∧ ∃ cur, wr.heap[k]? = some (.cells cur 40 (0, 0))) p.1 p.2
 cbl : cb < w.heap.size
 sz : w.heap.size + 3 ≤ wr.heap.size
theorem AR.step {w0 w : World} {P : Nat → Prop} {cb : Nat} {m : MK} {lv cv nv : Value} {D : Nat → Prop} {ps rp : List LP} {v : Value} {sk sk' : CSt} {wr W w4 w5 : World} (h : AR w0 w P cb m lv cv nv D ps rp v sk wr) (h0 : ∀ k, w.heap.size ≤ k → k ≠ cb ∧ lv.ownBlock ≠ some k ∧ cv.ownBlock ≠ some k ∧ nv.ownBlock ≠ some k ∧ ¬ D k ∧ w0.heap.size ≤ k)
  (hW : Below wr.heap.size wr W) (hc : CY w0 P w4 cb m sk' lv cv nv D ps) (p : LP) (hl : IsLt w4 (madeL W w4) p.1 p.2) (ht : Turns (fun k => k = cb) W w4) (o : Obj) {v' : Value}
  (hown : w5.ownsRow (w.heap.size + 3) 40 4 v' (rp.length + 1) (rp.flatMap lpC ++ lpC p)) (hg : (w4.alloc o).grownBy w5 v.ownBlock) (hat : v'.ownBlock = v.ownBlock ∨ v'.ownBlock = some (w4.alloc o).heap.size) :
  w5.heap[w.heap.size + 2]? = some (.cells #[.int .i64 4, .string eB, .int .i64 0, v] 40 (0, 0)) ∧ AR w0 w P cb m lv cv nv D ps (rp ++ [p]) v' sk' (w5.setCell ⟨w.heap.size + 2, 3, none⟩ v') := by
 have hcb := h.cbl
 have hba : Below w4.heap.size w4 (w4.alloc o) := (Below.refl _ _).alloc (Nat.le_refl _) _
 have hvl : ∀ k, v.ownBlock = some k → w.heap.size + 3 ≤ k ∧ k < wr.heap.size := fun k hk => World.ownsRow.lt h.own k hk
 have htg : Turns (fun k => v.ownBlock = some k) (w4.alloc o) w5 := ⟨hg.os, hg.tape, hg.output, hg.size, fun k hk hs => hg.block k hk (fun e => hs e.symm)⟩
 have hsA : (w4.alloc o).heap.size = w4.heap.size + 1 := World.size_alloc _ _
 -- what stands from wr to w5, but for cb and v's row
 have k1 : ∀ k, k < wr.heap.size → k ≠ cb → v.ownBlock ≠ some k → w5.heap[k]? = wr.heap[k]? := fun k hk a b => by
  have e1 := hW.block k hk
  have l1 := Nat.lt_of_lt_of_le hk hW.size
  have e2 := ht.block k l1 a
  have l2 := Nat.lt_of_lt_of_le l1 ht.size
  have e3 := hba.block k l2
  have e4 := htg.block k (by omega) b
  exact e4.trans (e3.trans (e2.trans e1))
 have k2 : ∀ k, k < w4.heap.size → v.ownBlock ≠ some k → w5.heap[k]? = w4.heap[k]? := fun k hk b => (htg.block k (by omega) b).trans (hba.block k hk)
 have s5 : wr.heap.size ≤ w5.heap.size := Nat.le_trans hW.size (Nat.le_trans ht.size (by have := htg.size; omega))
 have s45 : w4.heap.size ≤ w5.heap.size := by have := htg.size; omega
 have hsz := h.sz
 have hv' : ∀ k, v'.ownBlock = some k → v.ownBlock = some k ∨ k = w4.heap.size + 1 := fun k hk => by
  rcases hat with q | q
  ·exact .inl (by rw [← q]; exact hk)
  ·rw [q] at hk; cases hk; exact .inr hsA
 have hob : w5.heap[w.heap.size + 2]? = some (.cells #[.int .i64 4, .string eB, .int .i64 0, v] 40 (0, 0)) := (k1 _ (by omega) (by omega) (fun e => by have := (hvl _ e).1; omega)).trans h.ob
 have ht6 : Turns (fun k => k = w.heap.size + 2) w5 (w5.setCell ⟨w.heap.size + 2, 3, none⟩ v') := (Turns.refl _ _).setCell _ _ (.inl rfl)
 have hcy5 : CY w0 P w5 cb m sk' lv cv nv D ps := (hc.under hba).apart htg (fun k hk => h0 k (by have := (hvl k hk).1; omega))
 refine ⟨hob, hcy5.apart ht6 (fun k hk => h0 k (by omega)), ?_, ?_, ?_, ?_, fun x hx => ?_, hcb, by have := ht6.size; omega⟩
 ·refine ⟨?_, ?_, ?_, ?_, fun k hk hs => ?_⟩
  ·exact ht6.os.trans (htg.os.trans (hba.os.trans (ht.os.trans (hW.os.trans h.ts.os))))
  ·exact ht6.tape.trans (htg.tape.trans (hba.tape.trans (ht.tape.trans (hW.tape.trans h.ts.tape))))
  ·exact ht6.output.trans (htg.output.trans (hba.output.trans (ht.output.trans (hW.output.trans h.ts.output))))
  ·have := h.ts.size; have := ht6.size; omega
  ·have e1 := h.ts.block k hk hs
   have l1 := Nat.lt_of_lt_of_le hk h.ts.size
   have e2 := k1 k l1 hs (fun e => by have := (hvl k e).1; omega)
   have e3 := ht6.block k (by omega) (by omega)
   exact e3.trans (e2.trans e1)
 ·rw [heap_setCell_same w5 _ 3 _ _ _ hob]; rfl
 ·exact (ht6.block _ (by omega) (by omega)).trans ((k1 _ (by omega) (by omega) (fun e => by have := (hvl _ e).1; omega)).trans h.tb)
 ·rw [List.length_append, show (rp ++ [p]).flatMap lpC = rp.flatMap lpC ++ lpC p by simp]
  exact ownsRow_same hown ht6.size (fun k hk => ht6.block k (World.ownsRow.lt hown k hk).2 (fun e => by have := (World.ownsRow.lt hown k hk).1; omega))
 ·have s6 : w5.heap.size ≤ (w5.setCell ⟨w.heap.size + 2, 3, none⟩ v').heap.size := ht6.size
  rcases List.mem_append.1 hx with q | q
  ·have hk : ∀ b, w.heap.size + 3 ≤ b → b < wr.heap.size → v.ownBlock ≠ some b → b ≠ cb → (w5.setCell ⟨w.heap.size + 2, 3, none⟩ v').heap[b]? = wr.heap[b]? := fun b a1 a2 a3 a4 => (ht6.block b (by omega) (by omega)).trans (k1 b a2 a4 a3)
   refine (h.lits x q).same (Nat.le_trans s5 ht6.size) (fun b hb hl => hk b hb.1 hl hb.2.2.1 hb.2.2.2.1) (fun b hb => ⟨hb.1, Nat.lt_of_lt_of_le hb.2.1 (Nat.le_trans s5 s6), fun e => ?_, hb.2.2.2.1, hb.2.2.2.2.choose, (hk b hb.1 hb.2.1 hb.2.2.1 hb.2.2.2.1).trans hb.2.2.2.2.choose_spec⟩)
   ·rcases hv' b e with z | z
    ·exact hb.2.2.1 z
    ·have := hb.2.1; have := hW.size; have := ht.size; omega
  ·rw [List.mem_singleton.1 q]
   have hWs := hW.size
   have hk : ∀ b, W.heap.size ≤ b → b < w4.heap.size → (w5.setCell ⟨w.heap.size + 2, 3, none⟩ v').heap[b]? = w4.heap[b]? := fun b a1 a2 => (ht6.block b (by omega) (by omega)).trans (k2 b a2 (fun e => by have := (hvl b e).2; omega))
   refine (hl.same (Nat.le_trans s45 ht6.size) (fun b hb hlt => hk b hb.1 hlt) (fun b hb => ?_))
   ·have h1 := hb.1
    have h2 := hb.2.1
    refine ⟨by omega, by omega, fun e => ?_, by omega, hb.2.2.choose, (hk b h1 h2).trans hb.2.2.choose_spec⟩
    rcases hv' b e with z | z
    ·have := (hvl b z).2; omega
    ·omega
theorem step_ownlit {ops : Array Oper} {o : Oper} {a : Act} {w : World} {K : Act → World → Prop} {Q : Exit → Act → World → Prop} {E : Prop} (hgd : o.guard = none) (sl x : Operand)
  (hop : o.op = .call { callee := .builtin .append, args := #[sl, x], argTypes := #[30, 30] }) (B : Nat) (v : Value) (n : Nat) (xs : List Value) (hs : a.eval sl = v) (hown : w.ownsRow B 40 4 v n xs) {G : Nat} (hx : a.eval x = .slice (some ⟨G, 0, none⟩) 1 1) (p : LP)
  (hG : w.heap[G]? = some (.cells #[.int .i64 p.1.kind_, .string p.1.text_, .int .i64 p.1.num_, .slice p.2.p p.1.kids_.length p.2.c] 40 (0, 0))) (hle : n ≤ 1000000) (hB : B ≤ w.heap.size)
  (hK : ∀ v' w', w'.ownsRow B 40 4 v' (n + 1) (xs ++ lpC p) → w.grownBy w' v.ownBlock → (v'.ownBlock = v.ownBlock ∨ v'.ownBlock = some w.heap.size) → K (a.put o.dst v') w') : if Region.wanted o (yielded ops a.tmps) = true then Oper.wp Try.prog o a w K Q else E := by
 obtain ⟨i0, hi, hz0, hz1, hz2⟩ := info_parts infoL
 have hone : ∀ u ∈ lpC p, u.oneCell' = true := fun u hu => by
  unfold lpC ltC at hu
  simp only [List.mem_cons, List.not_mem_nil, or_false] at hu
  rcases hu with rfl | rfl | rfl | rfl <;> rfl
 rw [if_pos (by simp [Region.wanted, hgd])]
 obtain ⟨v', w', hr, h2, h3, _, h5⟩ := run_append_own_at (P := Try.prog) w B 30 o.type 40 i0 (.agg #[.int .i64 0, .string eB, .int .i64 0, .slice none 0 0]) 4 56 Try.underlying30 hi hz0 hz1 hz2 rfl (by decide) v n xs hown ⟨G, 0, none⟩ 1 1 (lpC p) rfl (cells_block hG) hone (by unfold maxLen; omega) (by omega) hB
 unfold Oper.wp execOp
 simp only [hop, resolve, invoke, builtin, Sem.run_bind, Sem.run_pure, Result.andThen_ok, List.map_toArray, List.map_cons, List.map_nil, hs, hx, hr]
 exact hK _ _ h2 h3 h5
theorem arr_post {w0 w : World} {P : Nat → Prop} {cb : Nat} {m : MK} {lv cv nv : Value} {D : Nat → Prop} {ps rp : List LP} {A3 : Option Addr} {n c3 : Nat} {sk : CSt} {wr w' : World} (h : AR w0 w P cb m lv cv nv D ps rp (.slice A3 n c3) sk wr) (h0 : ∀ k, w.heap.size ≤ k → k ≠ cb ∧ lv.ownBlock ≠ some k ∧ cv.ownBlock ≠ some k ∧ nv.ownBlock ≠ some k ∧ ¬ D k ∧ w0.heap.size ≤ k)
  (hn : rp.length = n) (ht : Turns (fun k => k = w.heap.size + 1) wr w') : LitPost w0 w P cb m lv cv nv D ps (.node 4 eB 0 (rp.map Prod.fst)) sk (.returned (.agg #[.int .i64 4, .string eB, .int .i64 0, .slice A3 n c3])) w' := by
 subst hn
 obtain ⟨A, c, hv, hle, hmx⟩ := own_slice h.own
 cases hv
 have hcb := h.cbl
 have hsz := h.sz
 refine ⟨⟨A3, c3⟩, ?_, h.cy.apart ht (fun k hk => h0 k (by omega)), ?_, ?_⟩
 ·show _ = Ending.returned (.agg #[_, _, _, .slice A3 (rp.map Prod.fst).length c3])
  rw [List.length_map]
  rfl
 ·have hrow : LitRow wr (fun k => w.heap.size + 3 ≤ k ∧ k < wr.heap.size ∧ (Value.slice A3 rp.length c3).ownBlock ≠ some k ∧ k ≠ cb ∧ ∃ cur, wr.heap[k]? = some (.cells cur 40 (0, 0))) (.slice A3 rp.length c3) rp := ⟨ownsRow_mono h.own (Nat.zero_le _), h.lits⟩
  have hk : ∀ b, w.heap.size + 3 ≤ b → b < wr.heap.size → w'.heap[b]? = wr.heap[b]? := fun b a1 a2 => ht.block b a2 (by omega)
  refine .node _ _ (fun i => (rp.getD i (.node 0 eB 0 [], ⟨none, 0⟩)).2) ⟨(⟨by decide, by decide⟩ : InI 4), (⟨by decide, by decide⟩ : InI 0), Nat.zero_le _, ?_, hmx⟩ (fun i hi => ?_) (fun i hi => ?_)
  ·show (rp.map Prod.fst).length ≤ c3
   rw [List.length_map]; exact hle
  ·have hi' : i < rp.length := by simpa [LitT.kids_] using hi
   obtain ⟨b, c, cur, hv, _, hh, hc⟩ := hrow.at_ hi'
   cases hv
   have hb := World.ownsRow.lt h.own b rfl
   refine ⟨b, cur, rfl, (hk b hb.1 hb.2).trans hh, ⟨by omega, Nat.lt_of_lt_of_le hb.2 ht.size, cur, (hk b hb.1 hb.2).trans hh⟩, ?_⟩
   have e1 : (LitT.node 4 eB 0 (rp.map Prod.fst)).kids_[i] = rp[i].1 := by simp [LitT.kids_]
   have e2 : rp.getD i (.node 0 eB 0 [], ⟨none, 0⟩) = rp[i] := by rw [List.getD_eq_getElem?_getD, List.getElem?_eq_getElem hi']; rfl
   rw [e1]
   show Cells4 w' b (i * 4) rp[i].1 (rp.getD i (.node 0 eB 0 [], ⟨none, 0⟩)).2
   rw [e2]
   exact hc.same (hk b hb.1 hb.2)
  ·have hi' : i < rp.length := by simpa [LitT.kids_] using hi
   have e1 : (LitT.node 4 eB 0 (rp.map Prod.fst)).kids_[i] = rp[i].1 := by simp [LitT.kids_]
   have e2 : rp.getD i (.node 0 eB 0 [], ⟨none, 0⟩) = rp[i] := by rw [List.getD_eq_getElem?_getD, List.getElem?_eq_getElem hi']; rfl
   rw [e1]
   show IsLt w' _ rp[i].1 (rp.getD i (.node 0 eB 0 [], ⟨none, 0⟩)).2
   rw [e2]
   exact (h.lits rp[i] (List.getElem_mem hi')).same ht.size (fun b hb hl => hk b hb.1 hl) (fun b hb => ⟨by have := hb.1; omega, Nat.lt_of_lt_of_le hb.2.1 ht.size, hb.2.2.2.2.choose, (hk b hb.1 hb.2.1).trans hb.2.2.2.2.choose_spec⟩)
 ·refine ⟨ht.os.trans h.ts.os, ht.tape.trans h.ts.tape, ht.output.trans h.ts.output, Nat.le_trans h.ts.size ht.size, fun k hk hs => ?_⟩
  exact (ht.block k (Nat.lt_of_lt_of_le hk h.ts.size) (by omega)).trans (h.ts.block k hk hs)
set_option maxRecDepth 100000 in
set_option maxHeartbeats 16000000 in
theorem lit_go (f : Nat) : ∀ (x : NodT), x.size ≤ f → x.size ≤ 100000 → ∀ {w0 w : World} {P : Nat → Prop} {cb : Nat} {m : MK} {s : CSt} {lv cv nv : Value} {D : Nat → Prop} {ps : List LP} {q : NS}, CY w0 P w cb m s lv cv nv D ps → IsNd w0 (fun _ => True) x q → Calls Try.prog 56 #[.pointer (some ⟨cb, 0, none⟩), ndV x q] w (LitPost w0 w P cb m lv cv nv D ps (litP x s).1 (litP x s).2) := by
 induction f with
 | zero => intro x hx; have := x.size_pos; omega
 | succ f ih =>
 intro x hx hx2 w0 w P cb m s lv cv nv D ps q hy hnd
 have hok := hnd.ok
 have HND := Lib.hid hnd
 have HY := Lib.hid hy
 have HIH := Lib.hid ih
 obtain ⟨k, t, nm, ns, ts, ks⟩ := x
 have ht := hok.text
 have hnu := hok.num
 have hki := hok.kind
 have hkl := hok.klen
 simp only [NodT.kind, NodT.text, NodT.num, NodT.kids] at ht hnu hki hkl
 have HT := Lib.hid ht
 have HNU := Lib.hid hnu
 clear hnd hy ih hok ht hnu
 unfold ndV
 simp only [NodT.kind, NodT.text, NodT.num, NodT.kids, NodT.names, NodT.temps]
 by_cases k1 : k = 1
 ·subst k1
  rw [show litP (.node 1 t nm ns ts ks) s = (.node 1 eB nm [], s) from by unfold litP; rw [if_pos rfl]]
  go_enter Try.func56, Try.ntmps56
  go_wp2_with fail
  refine bodyPost_ret (v := .agg #[.int .i64 1, .string eB, .int .i64 nm, .slice none 0 0]) (by simp [results, Try.results56, go_sem]) rfl ?_
  exact leaf_post HY.out bel ⟨by decide, by decide⟩ HNU.out (Nat.zero_le _)
 by_cases k2 : k = 2
 ·subst k2
  rw [show litP (.node 2 t nm ns ts ks) s = (.node 2 t 0 [], s) from by unfold litP; rw [if_neg (by decide), if_pos rfl]]
  go_enter Try.func56, Try.ntmps56
  go_wp2_with fail
  refine bodyPost_ret (v := .agg #[.int .i64 2, .string t, .int .i64 0, .slice none 0 0]) (by simp [results, Try.results56, go_sem]) rfl ?_
  exact leaf_post HY.out bel ⟨by decide, by decide⟩ ⟨by decide, by decide⟩ HT.out
 by_cases k3 : k = 3
 ·subst k3
  rw [show litP (.node 3 t nm ns ts ks) s = (.node 3 t 0 [], s) from by unfold litP; rw [if_neg (by decide), if_neg (by decide), if_pos rfl]]
  go_enter Try.func56, Try.ntmps56
  go_wp2_with fail
  refine bodyPost_ret (v := .agg #[.int .i64 3, .string t, .int .i64 0, .slice none 0 0]) (by simp [results, Try.results56, go_sem]) rfl ?_
  exact leaf_post HY.out bel ⟨by decide, by decide⟩ ⟨by decide, by decide⟩ HT.out
 by_cases k4 : k = 4
 ·subst k4
  have HLI : Hid (litP (.node 4 t nm ns ts ks) s = (.node 4 eB 0 (litsP ks s).1, (litsP ks s).2)) := Lib.hid (by conv => lhs; unfold litP; rw [if_neg (by decide), if_neg (by decide), if_neg (by decide), if_pos rfl])
  rw [HLI.out]
  have hcb := lt_of_block HY.out.box
  obtain ⟨n, hn⟩ : ∃ n, ks.length = n := ⟨_, rfl⟩
  have HN := Lib.hid hn
  rw [hn] at hkl ⊢
  have hn5 : n ≤ 100000 := by
   rw [← hn]
   have := kids_le (NodT.node 4 t nm ns ts ks)
   simp only [NodT.kids] at this
   omega
  obtain ⟨W3, hW3⟩ : ∃ W3, W3 = ((w.alloc (.cells #[.int .i64 4, .string t, .int .i64 nm, .slice q.pn ns.length q.cn, .slice q.pt ts.length q.ct, .slice q.pk n q.ck] 25)).alloc (.cells #[.int .i64 0, .string eB, .int .i64 0, .slice none 0 0] 40)).alloc (.cells #[.int .i64 4, .string eB, .int .i64 0, .slice none 0 0] 40) := ⟨_, rfl⟩
  have hb3 : Below w.heap.size w W3 := by rw [hW3]; (repeat' first | (with_reducible first | exact bl0 _ _ | assumption | apply bl1 | apply bl2 | apply bl3 | apply bl4) | go_size)
  have har : AR w0 w P cb m lv cv nv D ps [] (.slice none 0 0) s W3 := by
   refine ⟨HY.out.under hb3, Turns.of_below hb3, ?_, ?_, World.ownsRow_nil _ _ _ _, fun p hp => absurd hp (by simp), hcb, by rw [hW3]; simp⟩
   ·rw [hW3]
    have := heap_alloc_new ((w.alloc (.cells #[.int .i64 4, .string t, .int .i64 nm, .slice q.pn ns.length q.cn, .slice q.pt ts.length q.ct, .slice q.pk n q.ck] 25)).alloc (.cells #[.int .i64 0, .string eB, .int .i64 0, .slice none 0 0] 40)) (.cells #[.int .i64 4, .string eB, .int .i64 0, .slice none 0 0] 40)
    simp only [World.size_alloc] at this
    exact this
   ·rw [hW3]
    refine ((Below.refl _ _).alloc (Nat.le_refl _) (.cells #[.int .i64 4, .string eB, .int .i64 0, .slice none 0 0] 40)).block _ (by simp) |>.trans ?_
    have := heap_alloc_new (w.alloc (.cells #[.int .i64 4, .string t, .int .i64 nm, .slice q.pn ns.length q.cn, .slice q.pt ts.length q.ct, .slice q.pk n q.ck] 25)) (.cells #[.int .i64 0, .string eB, .int .i64 0, .slice none 0 0] 40)
    rw [World.size_alloc] at this
    exact this
  have HAR := Lib.hid har
  clear har hb3 hn
  go_enter Try.func56, Try.ntmps56
  go_wp2_with fail
  go_loopw [31] (fun i wr => ∃ (j : Nat) (sk : CSt) (rp : List LP) (A3 : Option Addr) (c3 : Nat), i = .int .i64 j ∧ j ≤ n ∧ rp.length = j ∧ AR w0 w P cb m lv cv nv D ps rp (.slice A3 j c3) sk wr ∧ litsP ks s = (rp.map Prod.fst ++ (litsP (ks.drop j) sk).1, (litsP (ks.drop j) sk).2)) (fun i _ => n - (intOf i).toNat)
  case atStart => exact ⟨0, s, [], none, 0, rfl, Nat.zero_le _, rfl, by rw [← hW3]; exact HAR.out, rfl⟩
  case round =>
   obtain ⟨j, sk, rp, A3, c3, rfl, hj, hrp, har, hli⟩ := hrel
   clear HAR hW3
   have HAR := Lib.hid har
   have HLP := Lib.hid hli
   have HRP := Lib.hid hrp
   have o3 : wr.cell? ⟨w.heap.size + 2, 3, none⟩ = some (.slice A3 j c3) := by simp [World.cell?, har.ob]
   have o0 : wr.cell? ⟨w.heap.size + 2, 0, none⟩ = some (.int .i64 4) := by simp [World.cell?, har.ob]
   have o1 : wr.cell? ⟨w.heap.size + 2, 1, none⟩ = some (.string eB) := by simp [World.cell?, har.ob]
   have o2 : wr.cell? ⟨w.heap.size + 2, 2, none⟩ = some (.int .i64 0) := by simp [World.cell?, har.ob]
   have fo : wr.frozen? ⟨w.heap.size + 2, 3, none⟩ = false := by simp [World.frozen?, har.ob]
   have hobl : w.heap.size + 2 < wr.heap.size := by have := har.sz; omega
   clear hli hrp
   by_cases hlt : j < n
   ·have d1 : decide (j < n) = true := decide_eq_true hlt
    have d2 : decide ((j : Int) < (n : Int)) = true := decide_eq_true (by omega)
    have hkl : j < (NodT.node 4 t nm ns ts ks).kids.length := by have := HN.out; simp only [NodT.kids]; omega
    obtain ⟨b, off, q', hpk, hbl, _, hc6, hkd⟩ := HND.out.kid hkl
    have hst := har.cy.stat
    have hc6w := hc6.same (hst.block b hbl)
    have hbw : b < wr.heap.size := Nat.lt_of_lt_of_le hbl hst.size
    have hsz := NodT.size_kid (List.getElem_mem hkl)
    obtain ⟨kd, hkx⟩ : ∃ kd, (NodT.node 4 t nm ns ts ks).kids[j] = kd := ⟨_, rfl⟩
    rw [hkx] at hc6w hkd hsz
    have HKX := Lib.hid hkx
    have c0 := hc6w.c0
    have c1 := hc6w.c1
    have c2 := hc6w.c2
    have c3' := hc6w.c3
    have c4 := hc6w.c4
    have c5 := hc6w.c5
    have hck : ∀ W, Below wr.heap.size wr W → Calls Try.prog 56 #[.pointer (some ⟨cb, 0, none⟩), ndV kd q'] W (LitPost w0 W P cb m lv cv nv D ps (litP kd sk).1 (litP kd sk).2) := fun W hW => HIH.out kd (by omega) (by omega) (har.cy.under hW) hkd
    obtain ⟨ld, sd, hld⟩ : ∃ l s, litP kd sk = (l, s) := ⟨_, _, rfl⟩
    rw [hld] at hck
    have HLD := Lib.hid hld
    unfold ndV LitPost ltV at hck
    have HIC := Lib.hid hck
    have g0 : (0 : Int) ≤ (j : Int) := by omega
    have g1 : (j : Int) < (n : Int) := by omega
    clear hck hld hkx hkd hc6 hc6w har hst hsz hx hx2
    have HBW : Hid (Below wr.heap.size wr (wr.alloc (.cells #[.int .i64 kd.kind, .string kd.text, .int .i64 kd.num, .slice q'.pn kd.names.length q'.cn, .slice q'.pt kd.temps.length q'.ct, .slice q'.pk kd.kids.length q'.ck] 25)).drew) := Lib.hid (Below.drew ((Below.refl _ _).alloc (Nat.le_refl _) _))
    go_upto_region 13 with fail
    go_region_law (first | (go_simp; go_at_call 56; (with_reducible refine (HIC.out _ bel).mono ?_); rintro e w4 ⟨ql, rfl, hc4, hl4, ht4⟩; have HC4 := Lib.hid hc4; have HL4 := Lib.hid hl4; have HT4 := Lib.hid ht4; have hob4 := (ht4.block (w.heap.size + 2) (by simp; omega) (by omega)).trans ((HBW.out.block (w.heap.size + 2) hobl).trans HAR.out.ob); have s3 : w4.cell? ⟨w.heap.size + 2, 3, none⟩ = some (.slice A3 j c3) := (by simp [World.cell?, hob4]); have s3a : (w4.alloc (.cells #[.int .i64 ld.kind_, .string ld.text_, .int .i64 ld.num_, .slice ql.p ld.kids_.length ql.c] 40)).cell? ⟨w.heap.size + 2, 3, none⟩ = some (.slice A3 j c3) := Lib.cell?_alloc_marked _ s3; have HOW : Hid ((w4.alloc (.cells #[.int .i64 ld.kind_, .string ld.text_, .int .i64 ld.num_, .slice ql.p ld.kids_.length ql.c] 40)).ownsRow (w.heap.size + 3) 40 4 (.slice A3 j c3) j (rp.flatMap lpC)) := Lib.hid (World.ownsRow.alloc (by have h9 := HAR.out.own; rw [HRP.out] at h9; refine ownsRow_same h9 (by have := ht4.size; simp at this; omega) (fun k hk => (ht4.block k (by have := (World.ownsRow.lt h9 k hk).2; simp; omega) (fun e => by have := (World.ownsRow.lt h9 k hk).1; omega)).trans (HBW.out.block k (World.ownsRow.lt h9 k hk).2))) _); have hs4 := ht4.size; simp at hs4; have hb4l : w.heap.size + 3 ≤ w4.heap.size := (by have := HAR.out.sz; omega); clear hc4 hl4 ht4 hob4) | ((refine step_ownlit rfl _ _ rfl (w.heap.size + 3) (.slice A3 j c3) j (rp.flatMap lpC) (by simp [Act.eval, Act.put]) HOW.out (G := w4.heap.size) (by simp [Act.eval, Act.put]) (ld, ql) (heap_alloc_new w4 _) (by omega) (by simp; omega) ?_; intro v5 w5 hown5 hg5 hat5; have hst := HAR.out.step (fun k hk => HY.out.fresh hk) HBW.out HC4.out (ld, ql) HL4.out HT4.out _ (by rw [HRP.out]; exact hown5) hg5 hat5; obtain ⟨A5, c5, hv5, _⟩ := own_slice hown5; subst hv5; have HST := Lib.hid hst; have s35 : w5.cell? ⟨w.heap.size + 2, 3, none⟩ = some (.slice A3 j c3) := (by simp [World.cell?, hst.1]); have f35 : w5.frozen? ⟨w.heap.size + 2, 3, none⟩ = false := (by simp [World.frozen?, hst.1]); clear hst hown5 hg5 hat5)))
    all_goals
     go_wp2_with fail
     go_roundw
     case rel =>
      refine ⟨j + 1, by omega, hlt, sd, rp ++ [(ld, ql)], by rw [List.length_append, HRP.out]; rfl, ⟨A5, c5, HST.out.2⟩, ?_⟩
      have hd : ks.drop j = kd :: ks.drop (j + 1) := by
       have h9 : ks[j]? = some kd := by
        have h8 : (NodT.node 4 t nm ns ts ks).kids[j]? = some kd := by rw [List.getElem?_eq_getElem hkl, HKX.out]
        exact h8
       obtain ⟨h7, h6⟩ := List.getElem?_eq_some_iff.1 h9
       rw [List.drop_eq_getElem_cons h7, h6]
      rw [HLP.out, hd]
      show (_ ++ ((litP kd sk).1 :: (litsP (ks.drop (j + 1)) (litP kd sk).2).1), (litsP (ks.drop (j + 1)) (litP kd sk).2).2) = _
      rw [HLD.out]
      simp
     case measure => simp [intOf]; omega
   ·have hkn : j = n := by omega
    have d1 : decide (j < n) = false := decide_eq_false hlt
    have d2 : decide ((j : Int) < (n : Int)) = false := decide_eq_false (by omega)
    clear hlt
    subst hkn
    have HTB := har.tb
    have u0 : wr.cell? ⟨w.heap.size + 1, 0, none⟩ = some (.int .i64 0) := by simp [World.cell?, har.tb]
    have u1 : wr.cell? ⟨w.heap.size + 1, 1, none⟩ = some (.string eB) := by simp [World.cell?, har.tb]
    have u2 : wr.cell? ⟨w.heap.size + 1, 2, none⟩ = some (.int .i64 0) := by simp [World.cell?, har.tb]
    have u3 : wr.cell? ⟨w.heap.size + 1, 3, none⟩ = some (.slice none 0 0) := by simp [World.cell?, har.tb]
    have r0 : wr.frozen? ⟨w.heap.size + 1, 0, none⟩ = false := by simp [World.frozen?, har.tb]
    have r1 : wr.frozen? ⟨w.heap.size + 1, 1, none⟩ = false := by simp [World.frozen?, har.tb]
    have r2 : wr.frozen? ⟨w.heap.size + 1, 2, none⟩ = false := by simp [World.frozen?, har.tb]
    have r3 : wr.frozen? ⟨w.heap.size + 1, 3, none⟩ = false := by simp [World.frozen?, har.tb]
    clear har
    go_wp2_with fail
    obtain ⟨W9, hW9⟩ : ∃ W9, W9 = ((((wr.setCell ⟨w.heap.size + 1, 0, none⟩ (.int .i64 4)).setCell ⟨w.heap.size + 1, 1, none⟩ (.string eB)).setCell ⟨w.heap.size + 1, 2, none⟩ (.int .i64 0)).setCell ⟨w.heap.size + 1, 3, none⟩ (.slice A3 j c3)) := ⟨_, rfl⟩
    have h9 : W9.heap[w.heap.size + 1]? = some (.cells #[.int .i64 4, .string eB, .int .i64 0, .slice A3 j c3] 40 (0, 0)) := by rw [hW9]; exact agg_set HTB
    have z0 : W9.cell? ⟨w.heap.size + 1, 0, none⟩ = some (.int .i64 4) := by simp [World.cell?, h9]
    have z1 : W9.cell? ⟨w.heap.size + 1, 1, none⟩ = some (.string eB) := by simp [World.cell?, h9]
    have z2 : W9.cell? ⟨w.heap.size + 1, 2, none⟩ = some (.int .i64 0) := by simp [World.cell?, h9]
    have z3 : W9.cell? ⟨w.heap.size + 1, 3, none⟩ = some (.slice A3 j c3) := by simp [World.cell?, h9]
    have HW9 := Lib.hid hW9
    rw [← hW9]
    clear hW9 h9
    refine bodyPost_ret (v := .agg #[.int .i64 4, .string eB, .int .i64 0, .slice A3 j c3]) (by simp [results, Try.results56, go_sem, z0, z1, z2, z3]) rfl ?_
    have htq : Turns (fun k => k = w.heap.size + 1) wr W9 := by
     rw [HW9.out]
     exact ((((Turns.refl (fun k => k = w.heap.size + 1) wr).setCell ⟨w.heap.size + 1, 0, none⟩ _ (.inl rfl)).setCell ⟨w.heap.size + 1, 1, none⟩ _ (.inl rfl)).setCell ⟨w.heap.size + 1, 2, none⟩ _ (.inl rfl)).setCell ⟨w.heap.size + 1, 3, none⟩ _ (.inl rfl)
    have hls : litsP ks s = (rp.map Prod.fst, sk) := by
     rw [HLP.out, ← HN.out, List.drop_length]
     simp [litsP]
    rw [hls]
    exact arr_post HAR.out (fun k hk => HY.out.fresh hk) HRP.out htq
 ·rw [show litP (.node k t nm ns ts ks) s = (.node 0 eB 0 [], failP s eB 1) from by unfold litP; rw [if_neg k1, if_neg k2, if_neg k3, if_neg k4]]
  have e1 : (k == 1) = false := by simpa using k1
  have e2 : (k == 2) = false := by simpa using k2
  have e3 : (k == 3) = false := by simpa using k3
  have e4 : (k == 4) = false := by simpa using k4
  have hcb := lt_of_block HY.out.box
  have HTB : Hid (((w.alloc (.cells #[.int .i64 k, .string t, .int .i64 nm, .slice q.pn ns.length q.cn, .slice q.pt ts.length q.ct, .slice q.pk ks.length q.ck] 25)).alloc (.cells #[.int .i64 0, .string eB, .int .i64 0, .slice none 0 0] 40)).heap[w.heap.size + 1]? = some (.cells #[.int .i64 0, .string eB, .int .i64 0, .slice none 0 0] 40 (0, 0))) := Lib.hid (by
   have := heap_alloc_new (w.alloc (.cells #[.int .i64 k, .string t, .int .i64 nm, .slice q.pn ns.length q.cn, .slice q.pt ts.length q.ct, .slice q.pk ks.length q.ck] 25)) (.cells #[.int .i64 0, .string eB, .int .i64 0, .slice none 0 0] 40)
   rw [World.size_alloc] at this; exact this)
  go_enter Try.func56, Try.ntmps56
  go_wp2_with (first | (go_at_call 54; (with_reducible refine (fail_cy (HY.out.under bel) ⟨#[]⟩ (Nat.zero_le _) 1).mono ?_); rintro e w3 ⟨rfl, hc3, ht3⟩; have HC3 := Lib.hid hc3; have htb3 := (ht3.block (w.heap.size + 1) (by simp) (by omega)).trans (HTB.out); have HT3 := Lib.hid ht3; have HTB3 := Lib.hid htb3; have v0 : w3.cell? ⟨w.heap.size + 1, 0, none⟩ = some (.int .i64 0) := (by simp [World.cell?, htb3]); have v1 : w3.cell? ⟨w.heap.size + 1, 1, none⟩ = some (.string eB) := (by simp [World.cell?, htb3]); have v2 : w3.cell? ⟨w.heap.size + 1, 2, none⟩ = some (.int .i64 0) := (by simp [World.cell?, htb3]); have v3 : w3.cell? ⟨w.heap.size + 1, 3, none⟩ = some (.slice none 0 0) := (by simp [World.cell?, htb3]); have r0 : w3.frozen? ⟨w.heap.size + 1, 0, none⟩ = false := (by simp [World.frozen?, htb3]); have r1 : w3.frozen? ⟨w.heap.size + 1, 1, none⟩ = false := (by simp [World.frozen?, htb3]); have r2 : w3.frozen? ⟨w.heap.size + 1, 2, none⟩ = false := (by simp [World.frozen?, htb3]); have r3 : w3.frozen? ⟨w.heap.size + 1, 3, none⟩ = false := (by simp [World.frozen?, htb3]); clear hc3 ht3 htb3))
  obtain ⟨W9, hW9⟩ : ∃ W9, W9 = ((((w3.setCell ⟨w.heap.size + 1, 0, none⟩ (.int .i64 0)).setCell ⟨w.heap.size + 1, 1, none⟩ (.string eB)).setCell ⟨w.heap.size + 1, 2, none⟩ (.int .i64 0)).setCell ⟨w.heap.size + 1, 3, none⟩ (.slice none 0 0)) := ⟨_, rfl⟩
  have h9 : W9.heap[w.heap.size + 1]? = some (.cells #[.int .i64 0, .string eB, .int .i64 0, .slice none 0 0] 40 (0, 0)) := by rw [hW9]; exact agg_set HTB3.out
  have z0 : W9.cell? ⟨w.heap.size + 1, 0, none⟩ = some (.int .i64 0) := by simp [World.cell?, h9]
  have z1 : W9.cell? ⟨w.heap.size + 1, 1, none⟩ = some (.string eB) := by simp [World.cell?, h9]
  have z2 : W9.cell? ⟨w.heap.size + 1, 2, none⟩ = some (.int .i64 0) := by simp [World.cell?, h9]
  have z3 : W9.cell? ⟨w.heap.size + 1, 3, none⟩ = some (.slice none 0 0) := by simp [World.cell?, h9]
  have HW9 := Lib.hid hW9
  rw [← hW9]
  clear hW9 h9
  refine bodyPost_ret (v := .agg #[.int .i64 0, .string eB, .int .i64 0, .slice none 0 0]) (by simp [results, Try.results56, go_sem, z0, z1, z2, z3]) rfl ?_
  have hb2 : Below w.heap.size w ((w.alloc (.cells #[.int .i64 k, .string t, .int .i64 nm, .slice q.pn ns.length q.cn, .slice q.pt ts.length q.ct, .slice q.pk ks.length q.ck] 25)).alloc (.cells #[.int .i64 0, .string eB, .int .i64 0, .slice none 0 0] 40)) := bel
  have htq : Turns (fun k => k = w.heap.size + 1) w3 W9 := by
   rw [HW9.out]
   exact ((((Turns.refl (fun k => k = w.heap.size + 1) w3).setCell ⟨w.heap.size + 1, 0, none⟩ _ (.inl rfl)).setCell ⟨w.heap.size + 1, 1, none⟩ _ (.inl rfl)).setCell ⟨w.heap.size + 1, 2, none⟩ _ (.inl rfl)).setCell ⟨w.heap.size + 1, 3, none⟩ _ (.inl rfl)
  have hT3 : Turns (fun k => k = cb) w W9 := by
   refine ⟨htq.os.trans (HT3.out.os.trans hb2.os), htq.tape.trans (HT3.out.tape.trans hb2.tape), htq.output.trans (HT3.out.output.trans hb2.output), Nat.le_trans hb2.size (Nat.le_trans HT3.out.size htq.size), fun j hj hs => ?_⟩
   have h1 := hb2.block j hj
   have h2 := HT3.out.block j (Nat.lt_of_lt_of_le hj hb2.size) hs
   have h3 := htq.block j (Nat.lt_of_lt_of_le hj (Nat.le_trans hb2.size HT3.out.size)) (by omega)
   exact h3.trans (h2.trans h1)
  exact ⟨⟨none, 0⟩, rfl, HC3.out.apart htq (fun k e => HY.out.fresh (by omega)), IsLt.leaf _ _ InI0 InI0 (Nat.zero_le _), hT3⟩
theorem lit_any {w0 w : World} {P : Nat → Prop} {cb : Nat} {m : MK} {s : CSt} {lv cv nv : Value} {D : Nat → Prop} {ps : List LP} {x : NodT} {q : NS} (h : CY w0 P w cb m s lv cv nv D ps) (hn : IsNd w0 (fun _ => True) x q) (hx : x.size ≤ 100000) : Calls Try.prog 56 #[.pointer (some ⟨cb, 0, none⟩), ndV x q] w (LitPost w0 w P cb m lv cv nv D ps (litP x s).1 (litP x s).2) := lit_go x.size x (Nat.le_refl _) hx h hn
end Go.Proofs.Ytnojndgmgkgnpaa

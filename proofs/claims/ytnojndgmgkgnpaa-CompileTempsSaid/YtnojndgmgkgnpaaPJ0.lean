/- Chapter 10: the reference's parser: a node under way. -/
import Derived.Test.YtnojndgmgkgnpaaPG
import Derived.Deep.RegionLaw
namespace Go.Proofs.Ytnojndgmgkgnpaa
open Go.ChangeShapes Go.WideShapes Go.ChangeAt Go.RowKit Go.Deep Go.Joins Go.Maps
set_option linter.unusedVariables false
set_option linter.unusedSimpArgs false
abbrev dOut (w : World) (ob : Nat) : Nat → Prop := fun b => w.heap.size < b ∧ b ≠ ob
/-- a node under way: its box at ob, the result's box at w's end; what it holds so far -/
structure Mw (w W : World) (D : Nat → Prop) (ob pb : Nat) (v : Value) (T : Tks) (s : PSt) (kd : Int) (tv : ByteArray) (vr : Value) (ps : List NP) : Prop where
 pt : PT pb v T w W s
 ol : w.heap.size < ob
 pl : pb < w.heap.size
 vl : ∀ k, v.ownBlock = some k → k < w.heap.size
 res : W.heap[w.heap.size]? = some (.cells #[.int .i64 0, .string eB, .int .i64 0, .slice none 0 0, .slice none 0 0, .slice none 0 0] 25 (0, 0))
 out : W.heap[ob]? = some (.cells #[.int .i64 kd, .string tv, .int .i64 0, .slice none 0 0, .slice none 0 0, vr] 25 (0, 0))
 row : NdRow W (ob + 1) D vr ps
 dd : ∀ b, D b → dOut w ob b
theorem PT.keepR {w4 W w5 : World} {pb : Nat} {v : Value} {T : Tks} {s0 s : PSt} (hp : PW w4 pb v T s0) (hb : Below w4.heap.size w4 W) (hx : PT pb v T W w5 s) {base : Nat} {D : Nat → Prop} {vr : Value} {ps : List NP} (h : NdRow w4 base D vr ps) (hD : ∀ b, D b → b ≠ pb) : NdRow w5 base D vr ps :=
 (h.below hb).turns hx.2 (fun b e => ⟨fun q => by
  obtain ⟨cur, hc⟩ := own_type h.own q
  have e9 : b = pb := e
  rw [e9, hp.box] at hc; simp at hc, fun z => hD b z e⟩)
section
variable {w W W1 w' : World} {D : Nat → Prop} {ob pb : Nat} {v : Value} {T : Tks} {s s' : PSt} {kd : Int} {tv : ByteArray} {vr : Value} {ps : List NP}
theorem Mw.own (h : Mw w W D ob pb v T s kd tv vr ps) : ∀ k, vr.ownBlock = some k → ob < k ∧ k < W.heap.size := fun k hk => by
 have := World.ownsRow.lt h.row.own k hk
 exact ⟨by omega, this.2⟩
theorem Mw.fresh (h : Mw w W D ob pb v T s kd tv vr ps) : ∀ b, W.heap.size ≤ b → dOut w ob b ∧ vr.ownBlock ≠ some b := fun b hb => by
 have h1 := lt_of_block h.out
 have h2 := h.ol
 exact ⟨⟨by omega, by omega⟩, fun e => by have := (h.own b e).2; omega⟩
theorem Mw.below (h : Mw w W D ob pb v T s kd tv vr ps) (hb : Below W.heap.size W w') : Mw w w' D ob pb v T s kd tv vr ps :=
 ⟨h.pt.below hb, h.ol, h.pl, h.vl, (hb.block _ (lt_of_block h.res)).trans h.res, (hb.block _ (lt_of_block h.out)).trans h.out, h.row.below hb, h.dd⟩
theorem Mw.go (h : Mw w W D ob pb v T s kd tv vr ps) (hb : Below W.heap.size W W1) (hx : PT pb v T W1 w' s') : Mw w w' D ob pb v T s' kd tv vr ps :=
 ⟨(h.pt.below hb).go hx, h.ol, h.pl, h.vl, PT.keepB hb hx h.res (by have := h.pl; omega), PT.keepB hb hx h.out (by have := h.pl; have := h.ol; omega), PT.keepR h.pt.1 hb hx h.row (fun b z => by have := (h.dd b z).1; have := h.pl; omega), h.dd⟩
/-- blocks are turned that are none of these -/
theorem Mw.turned (h : Mw w W D ob pb v T s kd tv vr ps) {X : Nat → Prop} (ht : Turns X W w') (hX : ∀ k, X k → dOut w ob k ∧ vr.ownBlock ≠ some k ∧ ¬ D k) : Mw w w' D ob pb v T s kd tv vr ps :=
 ⟨h.pt.turned ht (fun k z => by have h1 := (hX k z).1; exact ⟨Nat.le_of_lt h1.1, by have := h1.1; have := h.pl; omega, fun q => by have := h.vl k q; have := h1.1; omega⟩), h.ol, h.pl, h.vl, (ht.block _ (lt_of_block h.res) (fun z => by have := (hX _ z).1.1; omega)).trans h.res, (ht.block _ (lt_of_block h.out) (fun z => (hX _ z).1.2 rfl)).trans h.out, h.row.turns ht (fun b z => (hX b z).2), h.dd⟩
/-- the nodes lie apart from a block that comes -/
theorem Mw.apart (h : Mw w W D ob pb v T s kd tv vr ps) (n : Nat) (hn : W.heap.size ≤ n) : Mw w W (fun b => D b ∧ b ≠ n) ob pb v T s kd tv vr ps :=
 ⟨h.pt, h.ol, h.pl, h.vl, h.res, h.out, h.row.more (fun b z hl _ => ⟨z, by omega⟩), fun b z => h.dd b z.1⟩
theorem Mw.relax (h : Mw w W D ob pb v T s kd tv vr ps) : Mw w W (dOut w ob) ob pb v T s kd tv vr ps :=
 ⟨h.pt, h.ol, h.pl, h.vl, h.res, h.out, h.row.more (fun b z _ _ => h.dd b z), fun _ z => z⟩
/-- a text is put into the box -/
theorem Mw.text (h : Mw w W D ob pb v T s kd tv vr ps) (t' : ByteArray) : Mw w (W.setCell ⟨ob, 1, none⟩ (.string t')) D ob pb v T s kd t' vr ps := by
 have ht : Turns (fun k => k = ob) W (W.setCell ⟨ob, 1, none⟩ (.string t')) := (Turns.refl _ _).setCell ⟨ob, 1, none⟩ _ (.inl rfl)
 have h0 := h.ol
 refine ⟨h.pt.turned ht (fun k e => by have e9 : k = ob := e; exact ⟨by omega, by have := h.pl; omega, fun q => by have := h.vl k q; omega⟩), h.ol, h.pl, h.vl, (ht.block _ (lt_of_block h.res) (fun e => by have e9 : w.heap.size = ob := e; omega)).trans h.res, ?_, h.row.turns ht (fun b e => by have e9 : b = ob := e; exact ⟨fun q => by have := (h.own b q).1; omega, fun z => (h.dd b z).2 e9⟩), h.dd⟩
 rw [heap_setCell_same W ob 1 _ _ _ h.out]
 rfl
theorem Mw.mid (h : Mw w W D ob pb v T s kd tv vr ps) (hb : Below W.heap.size W W1) (ht : Turns (fun k => vr.ownBlock = some k) W1 w') : w'.heap[ob]? = some (.cells #[.int .i64 kd, .string tv, .int .i64 0, .slice none 0 0, .slice none 0 0, vr] 25 (0, 0)) := by
 have ho := (hb.block _ (lt_of_block h.out)).trans h.out
 exact (ht.block _ (lt_of_block ho) (fun e => by have := (h.own _ e).1; omega)).trans ho
/-- the row, and a longer one behind an append -/
theorem Mw.push (h : Mw w W D ob pb v T s kd tv vr ps) {ps' : List NP} {v' : Value} (hb : Below W.heap.size W W1) (hr : NdRow w' (ob + 1) D v' ps') (ht : Turns (fun k => vr.ownBlock = some k) W1 w') : Mw w (w'.setCell ⟨ob, 5, none⟩ v') D ob pb v T s kd tv v' ps' := by
 have h0 := h.ol
 have hX : ∀ k, vr.ownBlock = some k → w.heap.size < k ∧ k ≠ ob := fun k e => by have := h.own k e; exact ⟨by omega, by omega⟩
 have h1 := h.below hb
 have hp1 : PT pb v T w w' s := h1.pt.turned ht (fun k e => ⟨by have := (hX k e).1; omega, by have := (hX k e).1; have := h.pl; omega, fun q => by have := h.vl k q; have := (hX k e).1; omega⟩)
 have hr1 := (ht.block _ (lt_of_block h1.res) (fun e => by have := (hX _ e).1; omega)).trans h1.res
 have ho1 := (ht.block _ (lt_of_block h1.out) (fun e => (hX _ e).2 rfl)).trans h1.out
 have ht2 : Turns (fun k => k = ob) w' (w'.setCell ⟨ob, 5, none⟩ v') := (Turns.refl _ _).setCell ⟨ob, 5, none⟩ _ (.inl rfl)
 refine ⟨hp1.turned ht2 (fun k e => by have e9 : k = ob := e; exact ⟨by omega, by have := h.pl; omega, fun q => by have := h.vl k q; omega⟩), h.ol, h.pl, h.vl, (ht2.block _ (lt_of_block hr1) (fun e => by have e9 : w.heap.size = ob := e; omega)).trans hr1, ?_, hr.turns ht2 (fun b e => by have e9 : b = ob := e; exact ⟨fun q => by have := (World.ownsRow.lt hr.own b q).1; omega, fun z => (h.dd b z).2 e9⟩), h.dd⟩
 rw [heap_setCell_same w' ob 5 _ _ _ ho1]
 rfl
/-- behind the store of the result -/
theorem Mw.fin (h : Mw w W D ob pb v T s kd tv vr ps) (ht : Turns (fun k => k = w.heap.size) W w') : PT pb v T w w' s :=
 h.pt.turned ht (fun k e => by have e9 : k = w.heap.size := e; exact ⟨by omega, by have := h.pl; omega, fun q => by have := h.vl k q; omega⟩)
theorem Mw.node {A : Option Addr} {n c : Nat} (h : Mw w W D ob pb v T s kd tv (.slice A n c) ps) (ht : Turns (fun k => k = w.heap.size) W w') {k m : Int} {t : ByteArray} (hk : InI k) (hm : InI m) (hts : t.size ≤ big63) : IsNd w' (fun b => w.heap.size ≤ b) (.node k t m [] [] (ps.map Prod.fst)) ⟨none, 0, none, 0, A, c⟩ := by
 have h0 := h.ol
 exact (h.row.node (D' := fun b => w.heap.size < b) (fun b z => by omega) (fun b z => (h.dd b z).1) hk hm hts).turns ht (fun b z _ e => by have e9 : b = w.heap.size := e; omega) (fun b z => by omega)
theorem Mw.len {A : Option Addr} {n c : Nat} (h : Mw w W D ob pb v T s kd tv (.slice A n c) ps) : n = ps.length ∧ (A = none → c = 0) := by
 obtain ⟨A1, c1, e, _⟩ := h.row.slice
 cases e
 refine ⟨rfl, fun e => ?_⟩
 subst e
 rcases h.row.own.2 with ⟨h1, _⟩ | ⟨g, cap, cur, h1, _⟩
 ·simp at h1; exact h1.2
 ·simp at h1
end
/-- one more node, as a step -/
theorem step_nd1 {ops : Array Oper} {o : Oper} {a : Act} {w : World} {K : Act → World → Prop} {Q : Exit → Act → World → Prop} {E : Prop} (hgd : o.guard = none) (s x : Operand)
  (ho : o.op = .call { callee := .builtin .append, args := #[s, x], argTypes := #[23, 23] })
  {base : Nat} {D : Nat → Prop} {v : Value} {ps : List NP} (hs : a.eval s = v) (h : NdRow w base D v ps)
  {g : Nat} {y : NodT} {q : NS} (hx : a.eval x = .slice (some ⟨g, 0, none⟩) 1 1) (hc : w.heap[g]? = some (.cells #[.int .i64 y.kind, .string y.text, .int .i64 y.num, .slice q.pn y.names.length q.cn, .slice q.pt y.temps.length q.ct, .slice q.pk y.kids.length q.ck] 25 (0, 0))) (hn : IsNd w (fun b => D b ∧ v.ownBlock ≠ some b) y q) (hb : ps.length ≤ 1000000) (hbase : base ≤ w.heap.size)
  (hk : ∀ v' w', NdRow w' base D v' (ps ++ [(y, q)]) → Turns (fun k => v.ownBlock = some k) w w' → K (a.put o.dst v') w') : if Region.wanted o (yielded ops a.tmps) = true then Oper.wp Try.prog o a w K Q else E := by
 obtain ⟨i0, hi, hz0, hz1, hz2⟩ := info_parts infoN
 rw [if_pos (by simp [Region.wanted, hgd])]
 obtain ⟨v', w', hr, k2, k3, _, k5⟩ := run_append_own_at (P := Try.prog) w base 23 o.type 25 i0 (.agg #[.int .i64 0, .string eB, .int .i64 0, .slice none 0 0, .slice none 0 0, .slice none 0 0]) 6 104 Try.underlying23 hi hz0 hz1 hz2 rfl (by decide) v ps.length _ h.own ⟨g, 0, none⟩ 1 1 (ndC (y, q)) rfl (cells_block hc) (by simp [ndC, Value.oneCell']) (by unfold maxLen; omega) (by omega) hbase
 unfold Oper.wp execOp
 simp only [ho, resolve, invoke, builtin, Sem.run_bind, Sem.run_pure, Result.andThen_ok, List.map_toArray, List.map_cons, List.map_nil, hs, hx, hr]
 refine hk v' w' ⟨by rw [List.length_append, List.flatMap_append]; simpa using k2, fun p hp => ?_⟩ (turns_of_app k3)
 have hgo : ∀ (y : NodT) (q : NS), IsNd w (fun b => D b ∧ v.ownBlock ≠ some b) y q → IsNd w' (fun b => D b ∧ v'.ownBlock ≠ some b) y q := fun y q hy => hy.lt.same k3.size (fun b z hl => k3.block b hl (fun e => z.1.2 e.symm)) (fun b z => ⟨z.1.1, fun e => k5.elim (fun f => z.1.2 (f.symm.trans e)) (fun f => by
  have f1 := z.2
  rw [f] at e
  have f2 : w.heap.size = b := by simpa using e
  omega)⟩)
 rcases List.mem_append.1 hp with z | z
 ·exact hgo _ _ (h.nds p z)
 ·simp at z; subst z; exact hgo _ _ hn
theorem un_at {w : World} {pb : Nat} {v : Value} {T : Tks} {s : PSt} (h : PW w pb v T s) (hok : TokOk T) (hi : s.i ≤ T.length) {D : Nat → Prop} (hD : ∀ b, D b → b ≠ pb) {x : NodT} {q : NS} (hx : IsNd w D x q) : Calls Try.prog 39 #[.pointer (some ⟨pb, 0, none⟩), .agg #[.int .i64 x.kind, .string x.text, .int .i64 x.num, .slice q.pn x.names.length q.cn, .slice q.pt x.temps.length q.ct, .slice q.pk x.kids.length q.ck]] w (NdP D pb v T (unT T x s) w) := un_any h hok hi hD hx
theorem bin_at {f : Nat} {w : World} {pb : Nat} {v : Value} {T : Tks} {s : PSt} (hp : PSpec T f) (h : PW w pb v T s) (hi : s.i ≤ T.length) {D : Nat → Prop} (hD : ∀ b, D b → b ≠ pb) {x : NodT} {q : NS} (hx : IsNd w D x q) (hf : 8 * (T.length - s.i) + 2 < f) : Calls Try.prog 40 #[.pointer (some ⟨pb, 0, none⟩), .agg #[.int .i64 x.kind, .string x.text, .int .i64 x.num, .slice q.pn x.names.length q.cn, .slice q.pt x.temps.length q.ct, .slice q.pk x.kids.length q.ck]] w (NdP D pb v T ((rcF T f).bin x s) w) := hp.bin h hi hD hx hf
theorem kw_at {f : Nat} {w : World} {pb : Nat} {v : Value} {T : Tks} {s : PSt} (hp : PSpec T f) (h : PW w pb v T s) (hi : s.i ≤ T.length) {D : Nat → Prop} (hD : ∀ b, D b → b ≠ pb) {x : NodT} {q : NS} (hx : IsNd w D x q) (hf : 8 * (T.length - s.i) + 4 < f) : Calls Try.prog 41 #[.pointer (some ⟨pb, 0, none⟩), .agg #[.int .i64 x.kind, .string x.text, .int .i64 x.num, .slice q.pn x.names.length q.cn, .slice q.pt x.temps.length q.ct, .slice q.pk x.kids.length q.ck]] w (NdP D pb v T ((rcF T f).kw x s) w) := hp.kw h hi hD hx hf
end Go.Proofs.Ytnojndgmgkgnpaa

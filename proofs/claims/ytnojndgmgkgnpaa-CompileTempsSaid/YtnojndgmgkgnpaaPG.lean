/- Chapter 10: the reference's parser: rows of nodes under way. -/
import Derived.Test.YtnojndgmgkgnpaaPD
import Derived.Laws.AppendOwnNone
import Derived.Maps.AppendAt
namespace Go.Proofs.Ytnojndgmgkgnpaa
open Go.ChangeShapes Go.WideShapes Go.ChangeAt Go.RowKit Go.Deep Go.Joins Go.Maps
set_option linter.unusedVariables false
set_option linter.unusedSimpArgs false
abbrev NP := NodT × NS
def ndC (p : NP) : List Value := [.int .i64 p.1.kind, .string p.1.text, .int .i64 p.1.num, .slice p.2.pn p.1.names.length p.2.cn, .slice p.2.pt p.1.temps.length p.2.ct, .slice p.2.pk p.1.kids.length p.2.ck]
theorem ndC_len (p : NP) : (ndC p).length = 6 := rfl
theorem infoN : (Try.prog.info? 25).map (fun i => (i.zero, i.size, i.bytes)) = some (some (.agg #[.int .i64 0, .string eB, .int .i64 0, .slice none 0 0, .slice none 0 0, .slice none 0 0]), 6, 104) := by kernel_rfl
/-- a row of nodes of the call's own: the nodes lie in blocks of D, but not in the row's -/
structure NdRow (w : World) (base : Nat) (D : Nat → Prop) (v : Value) (ps : List NP) : Prop where
 own : w.ownsRow base 25 6 v ps.length (ps.flatMap ndC)
 nds : ∀ p, p ∈ ps → IsNd w (fun b => D b ∧ v.ownBlock ≠ some b) p.1 p.2
section
variable {w w' : World} {base : Nat} {D D' : Nat → Prop} {v : Value} {ps : List NP}
theorem NdRow.nil (w : World) (base : Nat) (D : Nat → Prop) : NdRow w base D (.slice none 0 0) [] := ⟨World.ownsRow_nil _ _ _ _, fun p hp => absurd hp (by simp)⟩
theorem NdRow.same (h : NdRow w base D v ps) (hs : w.heap.size ≤ w'.heap.size) (ho : ∀ k, v.ownBlock = some k → w'.heap[k]? = w.heap[k]?) (hb : ∀ b, D b → b < w.heap.size → w'.heap[b]? = w.heap[b]?) : NdRow w' base D v ps :=
 ⟨ownsRow_same h.own hs ho, fun p hp => (h.nds p hp).same hs (fun b z hl => hb b z.1 hl) (fun _ z => z)⟩
theorem NdRow.below (h : NdRow w base D v ps) (hb : Below w.heap.size w w') : NdRow w' base D v ps :=
 h.same hb.size (fun k hk => hb.block k (World.ownsRow.lt h.own k hk).2) (fun b _ hl => hb.block b hl)
theorem NdRow.turns (h : NdRow w base D v ps) {X : Nat → Prop} (ht : Turns X w w') (hX : ∀ b, X b → v.ownBlock ≠ some b ∧ ¬ D b) : NdRow w' base D v ps :=
 h.same ht.size (fun k hk => ht.block k (World.ownsRow.lt h.own k hk).2 (fun z => (hX k z).1 hk)) (fun b z hl => ht.block b hl (fun y => (hX b y).2 z))
theorem NdRow.more (h : NdRow w base D v ps) (hD : ∀ b, D b → b < w.heap.size → v.ownBlock ≠ some b → D' b) : NdRow w base D' v ps :=
 ⟨h.own, fun p hp => (h.nds p hp).more (fun b z hl => ⟨hD b z.1 hl z.2, z.2⟩)⟩
theorem NdRow.slice (h : NdRow w base D v ps) : ∃ A c, v = .slice A ps.length c ∧ ps.length ≤ c ∧ c ≤ maxLen := own_slice h.own
/-- where a node of the row lies -/
theorem NdRow.at_ (h : NdRow w base D v ps) {i : Nat} (hi : i < ps.length) : ∃ b c, v = .slice (some ⟨b, 0, none⟩) ps.length c ∧ b < w.heap.size ∧ base ≤ b ∧ Cells6 w b (i * 6) ps[i].1 ps[i].2 := by
 have ho := h.own
 rcases ho.2 with ⟨_, h0⟩ | ⟨g, cap, cur, hv, hg, hh, h1, h2, _⟩
 ·omega
 ·rw [hv] at ho
  have hc : ∀ j, j < 6 → w.cell? ⟨g, i * 6 + j, none⟩ = (ndC ps[i])[j]? := fun j hj => by
   rw [World.ownsRow.cellAt ho (i * 6 + j) (by omega)]
   exact flat_at ndC_len ps i j hi hj
  exact ⟨g, cap, hv, lt_of_block hh, hg, hc 0 (by omega), hc 1 (by omega), hc 2 (by omega), hc 3 (by omega), hc 4 (by omega), hc 5 (by omega)⟩
/-- a node over the row -/
theorem NdRow.node {A : Option Addr} {n c : Nat} (h : NdRow w base D (.slice A n c) ps) (hbd : ∀ b, base ≤ b → D' b) (hD : ∀ b, D b → D' b) {k m : Int} {t : ByteArray} (hk : InI k) (hm : InI m) (ht : t.size ≤ big63) : IsNd w D' (.node k t m [] [] (ps.map Prod.fst)) ⟨none, 0, none, 0, A, c⟩ := by
 obtain ⟨A1, c1, e1, e2, e3⟩ := h.slice
 cases e1
 refine IsNd.over (fun i => if h : i < ps.length then ps[i].2 else ⟨none, 0, none, 0, none, 0⟩) hk hm ht ⟨by rw [List.length_map]; exact e2, e3⟩ (fun i hi => ?_) (fun i hi => ?_)
 ·have hl : i < ps.length := by rw [List.length_map] at hi; exact hi
  obtain ⟨b, c2, f1, f2, f3, f4⟩ := h.at_ hl
  cases f1
  refine ⟨b, 0, rfl, f2, hbd b f3, ?_⟩
  rw [dif_pos hl, List.getElem_map, Nat.zero_add]
  exact f4
 ·have hl : i < ps.length := by rw [List.length_map] at hi; exact hi
  rw [dif_pos hl, List.getElem_map]
  exact (h.nds _ (List.getElem_mem hl)).more (fun b z _ => hD b z.1)
end
/-- one more node -/
theorem wpList_nd1 {w : World} {ops : Array Oper} {rest : List Oper} {o : Oper} {a : Act} {Q : Exit → Act → World → Prop} (hgd : o.guard = none) (s x : Operand)
  (ho : o.op = .call { callee := .builtin .append, args := #[s, x], argTypes := #[23, 23] })
  {base : Nat} {D : Nat → Prop} {v : Value} {ps : List NP} (hs : a.eval s = v) (h : NdRow w base D v ps)
  {g : Nat} {y : NodT} {q : NS} (hx : a.eval x = .slice (some ⟨g, 0, none⟩) 1 1) (hc : w.heap[g]? = some (.cells #[.int .i64 y.kind, .string y.text, .int .i64 y.num, .slice q.pn y.names.length q.cn, .slice q.pt y.temps.length q.ct, .slice q.pk y.kids.length q.ck] 25 (0, 0))) (hn : IsNd w (fun b => D b ∧ v.ownBlock ≠ some b) y q) (hb : ps.length ≤ 1000000) (hbase : base ≤ w.heap.size)
  (hk : ∀ v' w', NdRow w' base D v' (ps ++ [(y, q)]) → Turns (fun k => v.ownBlock = some k) w w' → (v'.ownBlock = v.ownBlock ∨ v'.ownBlock = some w.heap.size) → wpList Try.prog ops Q rest (a.put o.dst v') w') : wpList Try.prog ops Q (o :: rest) a w := by
 obtain ⟨i0, hi, hz0, hz1, hz2⟩ := info_parts infoN
 refine wpList_append_own_at (P := Try.prog) _ hgd s x 23 ho base 25 i0 (.agg #[.int .i64 0, .string eB, .int .i64 0, .slice none 0 0, .slice none 0 0, .slice none 0 0]) 6 104 Try.underlying23 hi hz0 hz1 hz2 rfl (by decide) v ps.length _ hs h.own ⟨g, 0, none⟩ 1 1 (ndC (y, q)) hx rfl (cells_block hc) (by simp [ndC, Value.oneCell']) (by unfold maxLen; omega) (by omega) hbase ?_
 intro v' w' k2 k3 _ k5
 refine hk v' w' ⟨by rw [List.length_append, List.flatMap_append]; simpa using k2, fun p hp => ?_⟩ (turns_of_app k3) k5
 have hgo : ∀ (y : NodT) (q : NS), IsNd w (fun b => D b ∧ v.ownBlock ≠ some b) y q → IsNd w' (fun b => D b ∧ v'.ownBlock ≠ some b) y q := fun y q hy => hy.lt.same k3.size (fun b z hl => k3.block b hl (fun e => z.1.2 e.symm)) (fun b z => ⟨z.1.1, fun e => k5.elim (fun f => z.1.2 (f.symm.trans e)) (fun f => by
  have f1 := z.2
  rw [f] at e
  have f2 : w.heap.size = b := by simpa using e
  omega)⟩)
 rcases List.mem_append.1 hp with z | z
 ·exact hgo _ _ (h.nds p z)
 ·simp at z; subst z; exact hgo _ _ hn
/-- the kids of a node, behind one's own -/
theorem wpList_nds {w : World} {ops : Array Oper} {rest : List Oper} {o : Oper} {a : Act} {Q : Exit → Act → World → Prop} (hgd : o.guard = none) (s x : Operand)
  (ho : o.op = .call { callee := .builtin .append, args := #[s, x], argTypes := #[23, 23] })
  {base : Nat} {D : Nat → Prop} {v : Value} {ps : List NP} (hs : a.eval s = v) (h : NdRow w base D v ps)
  {y : NodT} {q : NS} (hx : a.eval x = .slice q.pk y.kids.length q.ck) (hn : IsNd w (fun b => D b ∧ v.ownBlock ≠ some b) y q) (hq : q.pk = none → q.ck = 0) (hb : ps.length + y.kids.length ≤ 1000000) (hbase : base ≤ w.heap.size)
  (hk : ∀ v' w' rs, rs.map Prod.fst = y.kids → NdRow w' base D v' (ps ++ rs) → Turns (fun k => v.ownBlock = some k) w w' → (v'.ownBlock = v.ownBlock ∨ v'.ownBlock = some w.heap.size) → wpList Try.prog ops Q rest (a.put o.dst v') w') : wpList Try.prog ops Q (o :: rest) a w := by
 obtain ⟨i0, hi, hz0, hz1, hz2⟩ := info_parts infoN
 cases hn with
 | node y q Q0 g1 g2 g3 g4 g5 =>
  obtain ⟨rs, hrs⟩ : ∃ rs : List NP, rs = (List.range y.kids.length).map (fun i => (y.kids.getD i nd0, Q0 i)) := ⟨_, rfl⟩
  have hl : rs.length = y.kids.length := by rw [hrs]; simp
  have hr1 : rs.map Prod.fst = y.kids := by
   apply List.ext_getElem (by rw [List.length_map, hl])
   intro i h1 h2
   subst hrs
   simp [List.getD_eq_getElem?_getD, List.getElem?_eq_getElem h2]
  have hri : ∀ i (hi : i < rs.length) (h2 : i < y.kids.length), rs[i] = (y.kids[i], Q0 i) := fun i hi h2 => by
   subst hrs
   simp [List.getD_eq_getElem?_getD, List.getElem?_eq_getElem h2]
  rcases hp : q.pk with _ | ad
  ·have hz : y.kids = [] := by
    rcases hy : y.kids with _ | ⟨z, l⟩
    ·rfl
    ·obtain ⟨b, off, e, _⟩ := g4 0 (by rw [hy]; simp)
     rw [hp] at e; cases e
   rw [hp, hz, hq hp] at hx
   have h0 : rs = [] := List.eq_nil_of_length_eq_zero (by rw [hl, hz]; rfl)
   refine wpList_append_own_none (P := Try.prog) hgd s x 23 ho base 25 i0 6 Try.underlying23 hi v ps.length _ hs h.own hx (hk v w rs hr1 (by rw [h0, List.append_nil]; exact h) (Turns.refl _ _) (.inl rfl))
  ·rw [hp] at hx
   refine wpList_append_own_at (P := Try.prog) _ hgd s x 23 ho base 25 i0 (.agg #[.int .i64 0, .string eB, .int .i64 0, .slice none 0 0, .slice none 0 0, .slice none 0 0]) 6 104 Try.underlying23 hi hz0 hz1 hz2 rfl (by decide) v ps.length _ hs h.own ad y.kids.length q.ck (rs.flatMap ndC) hx (by rw [flat_len ndC_len, hl]) ?_ ?_ (by unfold maxLen; omega) (by omega) hbase ?_
   ·intro j u hj
    have hlt : j < (rs.flatMap ndC).length := by
     rcases Nat.lt_or_ge j (rs.flatMap ndC).length with z | z
     ·exact z
     ·rw [List.getElem?_eq_none z] at hj; cases hj
    rw [flat_len ndC_len, hl] at hlt
    have hi2 : j / 6 < y.kids.length := by omega
    have e6 : j = (j / 6) * 6 + j % 6 := by omega
    obtain ⟨b, off, e, k1, k2, k3⟩ := g4 (j / 6) hi2
    rw [hp] at e; cases e
    rw [add_plain]
    have hm : j % 6 < 6 := Nat.mod_lt _ (by decide)
    rw [e6, flat_at ndC_len rs (j / 6) (j % 6) (by omega) hm, hri _ (by omega) hi2] at hj
    have e7 : off + j = off + j / 6 * 6 + j % 6 := by omega
    rw [e7]
    have hcase : j % 6 = 0 ∨ j % 6 = 1 ∨ j % 6 = 2 ∨ j % 6 = 3 ∨ j % 6 = 4 ∨ j % 6 = 5 := by omega
    rcases hcase with z | z | z | z | z | z <;> rw [z] at hj ⊢ <;> (simp [ndC] at hj; subst hj)
    ·exact k3.c0
    ·exact k3.c1
    ·exact k3.c2
    ·exact k3.c3
    ·exact k3.c4
    ·exact k3.c5
   ·intro u hu
    obtain ⟨p, _, hpu⟩ := List.mem_flatMap.1 hu
    simp only [ndC, List.mem_cons, List.not_mem_nil, or_false] at hpu
    rcases hpu with z | z | z | z | z | z <;> subst z <;> rfl
   ·intro v' w' k2 k3 _ k5
    refine hk v' w' rs hr1 ⟨by rw [List.length_append, hl, List.flatMap_append]; exact k2, fun p hp => ?_⟩ (turns_of_app k3) k5
    have hgo : ∀ (y : NodT) (q : NS), IsNd w (fun b => D b ∧ v.ownBlock ≠ some b) y q → IsNd w' (fun b => D b ∧ v'.ownBlock ≠ some b) y q := fun y q hy => hy.lt.same k3.size (fun b z hl => k3.block b hl (fun e => z.1.2 e.symm)) (fun b z => ⟨z.1.1, fun e => k5.elim (fun f => z.1.2 (f.symm.trans e)) (fun f => by
     have f1 := z.2
     rw [f] at e
     have f2 : w.heap.size = b := by simpa using e
     omega)⟩)
    rcases List.mem_append.1 hp with z | z
    ·exact hgo _ _ (h.nds p z)
    ·obtain ⟨i, hi, e⟩ := List.mem_iff_getElem.1 z
     have h2 : i < y.kids.length := by omega
     rw [hri i hi h2] at e
     subst e
     exact hgo _ _ (g5 i h2)
end Go.Proofs.Ytnojndgmgkgnpaa
/- Chapter 10: the reference's parser: keyword sends. -/
namespace Go.Proofs.Ytnojndgmgkgnpaa
open Go.ChangeShapes Go.WideShapes Go.ChangeAt Go.RowKit Go.Deep Go.Joins Go.Maps
set_option linter.unusedVariables false
set_option linter.unusedSimpArgs false
theorem len_sizes : ∀ l : List NodT, l.length ≤ NodT.sizes l
 | [] => Nat.le_refl _
 | a :: l => by
  have h := len_sizes l
  have h2 : NodT.sizes (a :: l) = a.size + NodT.sizes l := by simp [NodT.sizes]
  have h3 : 1 ≤ a.size := by cases a; rw [node_size]; omega
  rw [List.length_cons, h2]; omega
set_option maxRecDepth 100000 in
set_option maxHeartbeats 16000000 in
theorem kw_go {f : Nat} {w : World} {pb : Nat} {v : Value} {T : Tks} {s : PSt} (hp : PSpec T f) (h : PW w pb v T s) (hok : TokOk T) (hi : s.i ≤ T.length) {D : Nat → Prop} (hD : ∀ b, D b → b ≠ pb) {x : NodT} {q : NS} (hx : IsNd w D x q) (hfu : 8 * (T.length - s.i) + 4 < f + 1) : Calls Try.prog 41 #[.pointer (some ⟨pb, 0, none⟩), ndV x q] w (NdP D pb v T (kwS T (rcF T f) x s) w) := by
 have HOK := Lib.hid hok
 have HI := Lib.hid hi
 have HF5 : Hid (8 * (T.length - s.i) + 3 < f) := Lib.hid (by omega)
 have hpl := lt_of_block h.box
 have H0 : Hid (PW ((w.alloc (.cells #[.int .i64 x.kind, .string x.text, .int .i64 x.num, .slice q.pn x.names.length q.cn, .slice q.pt x.temps.length q.ct, .slice q.pk x.kids.length q.ck] 25)).alloc (.cells #[.int .i64 0, .string eB, .int .i64 0, .slice none 0 0, .slice none 0 0, .slice none 0 0] 25)) pb v T s ∧ Below w.heap.size w ((w.alloc (.cells #[.int .i64 x.kind, .string x.text, .int .i64 x.num, .slice q.pn x.names.length q.cn, .slice q.pt x.temps.length q.ct, .slice q.pk x.kids.length q.ck] 25)).alloc (.cells #[.int .i64 0, .string eB, .int .i64 0, .slice none 0 0, .slice none 0 0, .slice none 0 0] 25)) ∧ (((w.alloc (.cells #[.int .i64 x.kind, .string x.text, .int .i64 x.num, .slice q.pn x.names.length q.cn, .slice q.pt x.temps.length q.ct, .slice q.pk x.kids.length q.ck] 25)).alloc (.cells #[.int .i64 0, .string eB, .int .i64 0, .slice none 0 0, .slice none 0 0, .slice none 0 0] 25)).heap[w.heap.size]? = some (.cells #[.int .i64 x.kind, .string x.text, .int .i64 x.num, .slice q.pn x.names.length q.cn, .slice q.pt x.temps.length q.ct, .slice q.pk x.kids.length q.ck] 25 (0, 0)) ∧ ((w.alloc (.cells #[.int .i64 x.kind, .string x.text, .int .i64 x.num, .slice q.pn x.names.length q.cn, .slice q.pt x.temps.length q.ct, .slice q.pk x.kids.length q.ck] 25)).alloc (.cells #[.int .i64 0, .string eB, .int .i64 0, .slice none 0 0, .slice none 0 0, .slice none 0 0] 25)).heap[w.heap.size + 1]? = some (.cells #[.int .i64 0, .string eB, .int .i64 0, .slice none 0 0, .slice none 0 0, .slice none 0 0] 25 (0, 0))) ∧ IsNd ((w.alloc (.cells #[.int .i64 x.kind, .string x.text, .int .i64 x.num, .slice q.pn x.names.length q.cn, .slice q.pt x.temps.length q.ct, .slice q.pk x.kids.length q.ck] 25)).alloc (.cells #[.int .i64 0, .string eB, .int .i64 0, .slice none 0 0, .slice none 0 0, .slice none 0 0] 25)) (fun b => (D b ∧ b < w.heap.size) ∨ w.heap.size + 2 ≤ b) x q) := Lib.hid (by
  have hb : Below w.heap.size w ((w.alloc (.cells #[.int .i64 x.kind, .string x.text, .int .i64 x.num, .slice q.pn x.names.length q.cn, .slice q.pt x.temps.length q.ct, .slice q.pk x.kids.length q.ck] 25)).alloc (.cells #[.int .i64 0, .string eB, .int .i64 0, .slice none 0 0, .slice none 0 0, .slice none 0 0] 25)) := bel
  have h1 := heap_alloc_new w (.cells #[.int .i64 x.kind, .string x.text, .int .i64 x.num, .slice q.pn x.names.length q.cn, .slice q.pt x.temps.length q.ct, .slice q.pk x.kids.length q.ck] 25)
  have h2 := heap_alloc_new (w.alloc (.cells #[.int .i64 x.kind, .string x.text, .int .i64 x.num, .slice q.pn x.names.length q.cn, .slice q.pt x.temps.length q.ct, .slice q.pk x.kids.length q.ck] 25)) (.cells #[.int .i64 0, .string eB, .int .i64 0, .slice none 0 0, .slice none 0 0, .slice none 0 0] 25)
  rw [World.size_alloc] at h2
  exact ⟨h.below hb, hb, ⟨((Below.refl _ _).alloc (Nat.le_refl _) _ |>.block _ (lt_of_block h1)).trans h1, h2⟩, hx.lt.same hb.size (fun b z _ => hb.block b z.2) (fun b z => .inl z)⟩)
 have HPL := Lib.hid hpl
 have HD := Lib.hid hD
 have HOG : Hid (∀ k, v.ownBlock = some k → k < w.heap.size) := Lib.hid (fun k e => (World.ownsRow.lt h.row k e).2)
 have HOLD1 : Hid (v.ownBlock ≠ some (w.heap.size + 1)) := Lib.hid (fun e => by have := (World.ownsRow.lt h.row _ e).2; omega)
 obtain ⟨b, hb⟩ : ∃ b, isT T s 2 eB = b := ⟨_, rfl⟩
 have HB := Lib.hid hb
 unfold ndV
 clear h hok hi hx hD hfu hb
 go_enter Try.func41, Try.ntmps41
 go_upto_region 1 with fail
 have h1 := H0.out
 obtain ⟨w1, hw1⟩ : ∃ w1, ((w.alloc (.cells #[.int .i64 x.kind, .string x.text, .int .i64 x.num, .slice q.pn x.names.length q.cn, .slice q.pt x.temps.length q.ct, .slice q.pk x.kids.length q.ck] 25)).alloc (.cells #[.int .i64 0, .string eB, .int .i64 0, .slice none 0 0, .slice none 0 0, .slice none 0 0] 25)) = w1 := ⟨_, rfl⟩
 rw [hw1] at h1 ⊢
 have HX : Hid (PT pb v T w w1 s) := Lib.hid ⟨h1.1, Turns.of_below h1.2.1⟩
 have HB0 := Lib.hid h1.2.2.1.1
 have HZ := Lib.hid h1.2.2.1.2
 have HND := Lib.hid h1.2.2.2
 clear hw1 H0 h1
 cases b with
 | true =>
  obtain ⟨⟨y, s6⟩, hr0⟩ : ∃ r, (rcF T f).msg s = r := ⟨_, rfl⟩
  have HR0 := Lib.hid hr0
  have hgp := (rcF_go HOK.out.at0 f).msg s
  rw [hr0] at hgp
  have HGP := Lib.hid hgp
  clear hr0 hgp
  go_upto_region 3 with (first | (go_at_call 22; (with_reducible refine (is_at HX.out.1.pt bel HOK.out 2 eB).mono ?_); rw [HB.out]; rintro e w4 ⟨rfl, hx⟩; have hb9 := PT.keepB bel hx HB0.out (by have := HPL.out; omega); have hz9 := PT.keepB bel hx HZ.out (by have := HPL.out; omega); have hn9 := PT.keepN bel hx HND.out (fun b z e => z.elim (fun y => HD.out b y.1 e) (fun y => by have := HPL.out; omega)); have hx9 := (HX.out.below bel).go hx; clear HB0 HZ HND HX; have HB0 := Lib.hid hb9; have HZ := Lib.hid hz9; have HND := Lib.hid hn9; have HX := Lib.hid hx9; clear hx9 hz9 hn9; have hz9 := HZ.out; obtain ⟨m0, m1, m2, m3, m4, m5, mr0, mr1, mr2, mr3, mr4, mr5⟩ := cf6 (hb9); obtain ⟨n0, n1, n2, n3, n4, n5, nr0, nr1, nr2, nr3, nr4, nr5⟩ := cf6 (hz9); clear hx hb9 hz9))
  have HZ4 := HZ
  have HBI := HB
  go_upto_region 4 with (first | (go_at_call 42; (with_reducible refine (hp.msg (HX.out.1.below bel) HI.out HF5.out).mono ?_); rw [HR0.out]; rintro e w6 ⟨qy, rfl, hq0, hx, hny⟩; unfold ndV; have hb9 := PT.keepB bel hx HB0.out (by have := HPL.out; omega); have hz9 := PT.keepB bel hx HZ.out (by have := HPL.out; omega); have hn9 := PT.keepN bel hx HND.out (fun b z e => z.elim (fun y => HD.out b y.1 e) (fun y => by have := HPL.out; omega)); have hx9 := (HX.out.below bel).go hx; clear HB0 HZ HND HX; have HB0 := Lib.hid hb9; have HZ := Lib.hid hz9; have HND := Lib.hid hn9; have HX := Lib.hid hx9; clear hx9 hz9 hn9; have HQ0 := Lib.hid hq0; have HNY := Lib.hid (hny.more (D' := fun b => w.heap.size + 2 ≤ b) (fun b z _ => by have h9 := lt_of_block HZ4.out; have z9 : w4.heap.size ≤ b := z; omega)); clear hx hny hb9 hq0))
  have hal := (Below.refl w6.heap.size w6).alloc (Nat.le_refl _) (.cells #[.int .i64 y.kind, .string y.text, .int .i64 y.num, .slice qy.pn y.names.length qy.cn, .slice qy.pt y.temps.length qy.ct, .slice qy.pk y.kids.length qy.ck] 25)
  have hb7 := (hal.block _ (lt_of_block HB0.out)).trans HB0.out
  obtain ⟨a0, a1, a2, a3, a4, a5⟩ := cc6 (hb7)
  clear hb7 hal
  go_upto_region 5 with fail
  have hal : Below w6.heap.size w6 ((w6.alloc (.cells #[.int .i64 y.kind, .string y.text, .int .i64 y.num, .slice qy.pn y.names.length qy.cn, .slice qy.pt y.temps.length qy.ct, .slice qy.pk y.kids.length qy.ck] 25)).alloc (.cells #[.int .i64 x.kind, .string x.text, .int .i64 x.num, .slice q.pn x.names.length q.cn, .slice q.pt x.temps.length q.ct, .slice q.pk x.kids.length q.ck] 25)) := bel
  have hs8 : ((w6.alloc (.cells #[.int .i64 y.kind, .string y.text, .int .i64 y.num, .slice qy.pn y.names.length qy.cn, .slice qy.pt y.temps.length qy.ct, .slice qy.pk y.kids.length qy.ck] 25)).alloc (.cells #[.int .i64 x.kind, .string x.text, .int .i64 x.num, .slice q.pn x.names.length q.cn, .slice q.pt x.temps.length q.ct, .slice q.pk x.kids.length q.ck] 25)).heap.size = w6.heap.size + 2 := by simp
  have h6 := heap_alloc_new w6 (.cells #[.int .i64 y.kind, .string y.text, .int .i64 y.num, .slice qy.pn y.names.length qy.cn, .slice qy.pt y.temps.length qy.ct, .slice qy.pk y.kids.length qy.ck] 25)
  have h7 := heap_alloc_new (w6.alloc (.cells #[.int .i64 y.kind, .string y.text, .int .i64 y.num, .slice qy.pn y.names.length qy.cn, .slice qy.pt y.temps.length qy.ct, .slice qy.pk y.kids.length qy.ck] 25)) (.cells #[.int .i64 x.kind, .string x.text, .int .i64 x.num, .slice q.pn x.names.length q.cn, .slice q.pt x.temps.length q.ct, .slice q.pk x.kids.length q.ck] 25)
  rw [World.size_alloc] at h7
  have h6 := ((Below.refl (w6.alloc (.cells #[.int .i64 y.kind, .string y.text, .int .i64 y.num, .slice qy.pn y.names.length qy.cn, .slice qy.pt y.temps.length qy.ct, .slice qy.pk y.kids.length qy.ck] 25)).heap.size _).alloc (Nat.le_refl _) (.cells #[.int .i64 x.kind, .string x.text, .int .i64 x.num, .slice q.pn x.names.length q.cn, .slice q.pt x.temps.length q.ct, .slice q.pk x.kids.length q.ck] 25) |>.block _ (lt_of_block h6)).trans h6
  have hn6 : w.heap.size + 2 ≤ w6.heap.size := by have h9 := lt_of_block HZ.out; omega
  have hx8 := HX.out.below hal
  have hz8 := (hal.block _ (lt_of_block HZ.out)).trans HZ.out
  have hnd8 := (HND.out.lt.same hal.size (fun b z hl => hal.block b hl) (fun b z => z)).more (D' := (fun b => (fun b => ((D b ∧ b < w.heap.size) ∨ w.heap.size + 2 ≤ b) ∧ b ≠ w6.heap.size) b ∧ Value.ownBlock (.slice (some ⟨w6.heap.size + 1, 0, none⟩) 1 1) ≠ some b)) (fun b z _ => ⟨⟨z.1, by have := z.2; omega⟩, by have := z.2; simp [Value.ownBlock]; omega⟩)
  have hny8 := (HNY.out.lt.same hal.size (fun b z hl => hal.block b hl) (fun b z => z)).more (D' := (fun b => (fun b => ((D b ∧ b < w.heap.size) ∨ w.heap.size + 2 ≤ b) ∧ b ≠ w6.heap.size) b ∧ Value.ownBlock (.slice (some ⟨w6.heap.size + 1, 0, none⟩) 1 1) ≠ some b)) (fun b z _ => ⟨⟨.inr z.1, by have := z.2; omega⟩, by have := z.2; simp [Value.ownBlock]; omega⟩)
  obtain ⟨w8, hw8⟩ : ∃ w8, (w6.alloc (.cells #[.int .i64 y.kind, .string y.text, .int .i64 y.num, .slice qy.pn y.names.length qy.cn, .slice qy.pt y.temps.length qy.ct, .slice qy.pk y.kids.length qy.ck] 25)).alloc (.cells #[.int .i64 x.kind, .string x.text, .int .i64 x.num, .slice q.pn x.names.length q.cn, .slice q.pt x.temps.length q.ct, .slice q.pk x.kids.length q.ck] 25) = w8 := ⟨_, rfl⟩
  rw [hw8] at h6 h7 hs8 hx8 hz8 hnd8 hny8 ⊢
  clear HB0 HZ HND HX HNY hal hw8 a0 a1 a2 a3 a4 a5
  have HR8 : Hid (NdRow w8 (w.heap.size + 2) (fun b => ((D b ∧ b < w.heap.size) ∨ w.heap.size + 2 ≤ b) ∧ b ≠ w6.heap.size) (.slice (some ⟨w6.heap.size + 1, 0, none⟩) 1 1) [(x, q)]) := Lib.hid ⟨⟨rfl, .inr ⟨w6.heap.size + 1, 1, _, rfl, by omega, h7, Nat.le_refl _, by unfold maxLen; omega, rfl, rfl⟩⟩, fun p hp => by simp at hp; subst hp; exact hnd8⟩
  have HNY := Lib.hid hny8
  have HX := Lib.hid hx8
  have HZ := Lib.hid hz8
  have HB6 := Lib.hid h6
  have HN6 := Lib.hid hn6
  have HS8 := Lib.hid hs8
  have HLEN : Hid ([(x, q)].length + y.kids.length ≤ 1000000) := Lib.hid (by
   have h1 := len_sizes y.kids
   have h2 : NodT.sizes y.kids ≤ 6 * (s6.i - s.i) - 5 := HGP.out.2
   have h3 : s6.i ≤ T.length := HGP.out.1.top HI.out
   have h4 := HOK.out.len
   show 1 + _ ≤ _
   omega)
  obtain ⟨m0, m1, m2, m3, m4, m5, mr0, mr1, mr2, mr3, mr4, mr5⟩ := cf6 (h6)
  clear hx8 hz8 hnd8 hny8 h6 h7 hs8 hn6
  go_upto_region 6 with (first | (at_builtin; refine wpList_nds rfl _ _ rfl rfl HR8.out rfl HNY.out HQ0.out HLEN.out (by have := HN6.out; have := HS8.out; omega) ?_; intro v9 w9 rs hrs hown ht9 hat; have HR9 := Lib.hid hown; have HTA := Lib.hid ht9; have HAT := Lib.hid hat; have HRS := Lib.hid hrs; obtain ⟨A9, c9, hv9, _⟩ := hown.slice; subst hv9; clear hown ht9 hat hrs))
  have hn6 := HN6.out
  have ht9 := HTA.out
  have h69 := (ht9.block _ (lt_of_block HB6.out) (fun e => by have e9 : some (w6.heap.size + 1) = some w6.heap.size := e; simp at e9)).trans HB6.out
  have hz9 := (ht9.block _ (lt_of_block HZ.out) (fun e => by have e9 : some (w6.heap.size + 1) = some (w.heap.size + 1) := e; simp at e9; omega)).trans HZ.out
  have hx9 : PT pb v T w w9 s6 := HX.out.turned ht9 (fun k e => by have e9 : some (w6.heap.size + 1) = some k := e; simp at e9; exact ⟨by omega, by have := HPL.out; omega, fun z => by have := HOG.out k z; omega⟩)
  obtain ⟨m0, m1, m2, m3, m4, m5, mr0, mr1, mr2, mr3, mr4, mr5⟩ := cf6 (h69)
  obtain ⟨n0, n1, n2, n3, n4, n5, nr0, nr1, nr2, nr3, nr4, nr5⟩ := cf6 (hz9)
  have HX9 := Lib.hid hx9
  have HZ9 := Lib.hid hz9
  have HTX : Hid (y.text.size ≤ big63) := Lib.hid HNY.out.ok.text
  have HE : Hid (kwS T (rcF T f) x s = (.node 7 y.text 0 [] [] (x :: rs.map Prod.fst), s6)) := Lib.hid (by
   rw [HRS.out]
   unfold kwS
   rw [if_pos HBI.out]
   show (NodT.node 7 ((rcF T f).msg s).1.text 0 [] [] (x :: ((rcF T f).msg s).1.kids), ((rcF T f).msg s).2) = _
   rw [HR0.out])
  clear hx9 hz9 ht9 h69 hn6
  go_wp2_with fail
  obtain ⟨W9, hW9⟩ : ∃ W9, W9 = ((((((w9.setCell ⟨w.heap.size + 1, 0, none⟩ (.int .i64 7)).setCell ⟨w.heap.size + 1, 1, none⟩ (.string y.text)).setCell ⟨w.heap.size + 1, 2, none⟩ (.int .i64 0)).setCell ⟨w.heap.size + 1, 3, none⟩ (.slice none 0 0)).setCell ⟨w.heap.size + 1, 4, none⟩ (.slice none 0 0)).setCell ⟨w.heap.size + 1, 5, none⟩ (.slice A9 (rs.length + 1) c9)) := ⟨_, rfl⟩
  have h9 : W9.heap[w.heap.size + 1]? = some (.cells #[.int .i64 7, .string y.text, .int .i64 0, .slice none 0 0, .slice none 0 0, .slice A9 (rs.length + 1) c9] 25 (0, 0)) := by rw [hW9]; exact agg_set6 HZ9.out
  obtain ⟨z0, z1, z2, z3, z4, z5⟩ := cc6 h9
  have HT9 : Hid (Turns (fun k => k = w.heap.size + 1) w9 W9) := Lib.hid (by rw [hW9]; exact six_turns (T := fun k => k = w.heap.size + 1) (Turns.refl _ _) (w.heap.size + 1) rfl)
  rw [← hW9]
  clear hW9 h9
  refine bodyPost_ret (v := .agg #[.int .i64 7, .string y.text, .int .i64 0, .slice none 0 0, .slice none 0 0, .slice A9 (rs.length + 1) c9]) (by simp [results, Try.results41, go_sem, z0, z1, z2, z3, z4, z5]) rfl ?_
  rw [HE.out]
  refine ⟨⟨none, 0, none, 0, A9, c9⟩, ?_, HX9.out.turned HT9.out (fun k e => ⟨by omega, by have := HPL.out; omega, by rw [e]; exact HOLD1.out⟩), ?_⟩
  ·refine congrArg Ending.returned ?_
   show Value.agg _ = Value.agg #[.int .i64 7, .string y.text, .int .i64 0, .slice none 0 0, .slice none 0 0, .slice A9 (x :: rs.map Prod.fst).length c9]
   rw [List.length_cons, List.length_map]
  ·have hnd := HR9.out.node (D' := fun b => (D b ∨ w.heap.size ≤ b) ∧ b ≠ w.heap.size + 1) (fun b z => ⟨.inr (by omega), by omega⟩) (fun b z => ⟨z.1.elim (fun y => .inl y.1) (fun y => .inr (by omega)), z.1.elim (fun y => by have := y.2; omega) (fun y => by omega)⟩) (k := 7) (m := 0) ⟨by decide, by decide⟩ ⟨by decide, by decide⟩ HTX.out
   exact hnd.turns HT9.out (fun b z _ e => z.2 e) (fun _ z => z.1)
 | false =>
  have HE : Hid (kwS T (rcF T f) x s = (x, s)) := Lib.hid (by unfold kwS; rw [if_neg (by rw [HB.out]; decide)])
  go_wp2_with (first | (go_at_call 22; (with_reducible refine (is_at HX.out.1.pt bel HOK.out 2 eB).mono ?_); rw [HB.out]; rintro e w4 ⟨rfl, hx⟩; have hb9 := PT.keepB bel hx HB0.out (by have := HPL.out; omega); have hz9 := PT.keepB bel hx HZ.out (by have := HPL.out; omega); have hn9 := PT.keepN bel hx HND.out (fun b z e => z.elim (fun y => HD.out b y.1 e) (fun y => by have := HPL.out; omega)); have hx9 := (HX.out.below bel).go hx; clear HB0 HZ HND HX; have HB0 := Lib.hid hb9; have HZ := Lib.hid hz9; have HND := Lib.hid hn9; have HX := Lib.hid hx9; clear hx9 hz9 hn9; have hz9 := HZ.out; obtain ⟨m0, m1, m2, m3, m4, m5, mr0, mr1, mr2, mr3, mr4, mr5⟩ := cf6 (hb9); obtain ⟨n0, n1, n2, n3, n4, n5, nr0, nr1, nr2, nr3, nr4, nr5⟩ := cf6 (hz9); clear hx hb9 hz9))
  obtain ⟨W9, hW9⟩ : ∃ W9, W9 = ((((((w4.setCell ⟨w.heap.size + 1, 0, none⟩ (.int .i64 x.kind)).setCell ⟨w.heap.size + 1, 1, none⟩ (.string x.text)).setCell ⟨w.heap.size + 1, 2, none⟩ (.int .i64 x.num)).setCell ⟨w.heap.size + 1, 3, none⟩ (.slice q.pn x.names.length q.cn)).setCell ⟨w.heap.size + 1, 4, none⟩ (.slice q.pt x.temps.length q.ct)).setCell ⟨w.heap.size + 1, 5, none⟩ (.slice q.pk x.kids.length q.ck)) := ⟨_, rfl⟩
  have h9 : W9.heap[w.heap.size + 1]? = some (.cells #[.int .i64 x.kind, .string x.text, .int .i64 x.num, .slice q.pn x.names.length q.cn, .slice q.pt x.temps.length q.ct, .slice q.pk x.kids.length q.ck] 25 (0, 0)) := by rw [hW9]; exact agg_set6 HZ.out
  obtain ⟨z0, z1, z2, z3, z4, z5⟩ := cc6 h9
  have HT9 : Hid (Turns (fun k => k = w.heap.size + 1) w4 W9) := Lib.hid (by rw [hW9]; exact six_turns (T := fun k => k = w.heap.size + 1) (Turns.refl _ _) (w.heap.size + 1) rfl)
  rw [← hW9]
  clear hW9 h9
  refine bodyPost_ret (v := .agg #[.int .i64 x.kind, .string x.text, .int .i64 x.num, .slice q.pn x.names.length q.cn, .slice q.pt x.temps.length q.ct, .slice q.pk x.kids.length q.ck]) (by simp [results, Try.results41, go_sem, z0, z1, z2, z3, z4, z5]) rfl ?_
  rw [HE.out]
  refine ⟨q, rfl, HX.out.turned HT9.out (fun k e => ⟨by omega, by have := HPL.out; omega, by rw [e]; exact HOLD1.out⟩), ?_⟩
  exact HND.out.turns HT9.out (fun b z _ e => z.elim (fun y => by have := y.2; have e9 : b = w.heap.size + 1 := e; omega) (fun y => by have e9 : b = w.heap.size + 1 := e; omega)) (fun b z => z.elim (fun y => .inl y.1) (fun y => .inr (by omega)))
end Go.Proofs.Ytnojndgmgkgnpaa

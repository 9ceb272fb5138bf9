/- Chapter 10: what nodes, literals, names and code hold in memory. -/
import Derived.Test.YtnojndgmgkgnpaaCPlain
import Derived.Test.YtnojndgmgkgnpaaBase
namespace Go.Proofs.Ytnojndgmgkgnpaa
open Go.ChangeShapes Go.WideShapes Go.ChangeAt Go.RowKit Go.Deep Go.Joins
set_option linter.unusedVariables false
set_option linter.unusedSimpArgs false
abbrev big63 : Nat := 9223372036854775807
def InI (x : Int) : Prop := -9223372036854775808 ≤ x ∧ x ≤ 9223372036854775807
theorem lt_of_block {w : World} {b : Nat} {o : Obj} (h : w.heap[b]? = some o) : b < w.heap.size := by
 rcases Nat.lt_or_ge b w.heap.size with q | q
 ·exact q
 ·rw [Array.getElem?_eq_none q] at h; cases h
/-- all but the blocks of S stays -/
structure Turns (S : Nat → Prop) (w w' : World) : Prop where
 os : w'.os = w.os
 tape : w'.tape = w.tape
 output : w'.output = w.output
 size : w.heap.size ≤ w'.heap.size
 block : ∀ k, k < w.heap.size → ¬ S k → w'.heap[k]? = w.heap[k]?
section
variable {S T : Nat → Prop} {w w' w'' : World}
theorem Turns.refl (S : Nat → Prop) (w : World) : Turns S w w := ⟨rfl, rfl, rfl, Nat.le_refl _, fun _ _ _ => rfl⟩
theorem Turns.trans (h : Turns S w w') (k : Turns S w' w'') : Turns S w w'' := ⟨k.os.trans h.os, k.tape.trans h.tape, k.output.trans h.output, Nat.le_trans h.size k.size, fun j hj hs => (k.block j (Nat.lt_of_lt_of_le hj h.size) hs).trans (h.block j hj hs)⟩
theorem Turns.mono (h : Turns S w w') (hs : ∀ k, k < w.heap.size → S k → T k) : Turns T w w' := ⟨h.os, h.tape, h.output, h.size, fun k hk ht => h.block k hk (fun q => ht (hs k hk q))⟩
theorem Turns.of_below (h : Below w.heap.size w w') : Turns S w w' := ⟨h.os, h.tape, h.output, h.size, fun k hk _ => h.block k hk⟩
theorem Turns.below (h : Turns S w w') {B : Nat} (hs : ∀ k, S k → B ≤ k) (hB : B ≤ w.heap.size) : Below B w w' := ⟨h.os, h.tape, h.output, h.size, fun k hk => h.block k (Nat.lt_of_lt_of_le hk hB) (fun q => by have := hs k q; omega)⟩
theorem Turns.setCell (h : Turns S w w') (a : Addr) (v : Value) (ha : S a.block ∨ w.heap.size ≤ a.block) : Turns S w (w'.setCell a v) := ⟨h.os, h.tape, h.output, by simpa using h.size, fun k hk hs => by
 rw [Below.heap_setCell _ _ _ _ (fun e => by subst e; rcases ha with q | q; exact hs q; omega)]
 exact h.block k hk hs⟩
theorem Turns.grown (h : Turns S w w') {o : Option Nat} (hg : w'.grownBy w'' o) (ho : ∀ k, o = some k → S k ∨ w.heap.size ≤ k) : Turns S w w'' :=
 ⟨hg.os.trans h.os, hg.tape.trans h.tape, hg.output.trans h.output, Nat.le_trans h.size hg.size, fun k hk hs => (hg.block k (Nat.lt_of_lt_of_le hk h.size) (fun e => by
  rcases ho k e.symm with q | q
  ·exact hs q
  ·omega)).trans (h.block k hk hs)⟩
theorem Turns.alloc (h : Turns S w w') (o : Obj) : Turns S w (w'.alloc o) := h.trans (Turns.of_below ((Below.refl _ _).alloc (Nat.le_refl _) _))
theorem Turns.drew (h : Turns S w w') : Turns S w w'.drew := ⟨h.os, h.tape, h.output, h.size, h.block⟩
theorem Turns.drewN (h : Turns S w w') (n : Nat) : Turns S w (w'.drewN n) := ⟨h.os, h.tape, h.output, h.size, h.block⟩
end
theorem ownsRow_same {w w' : World} {base n size : Nat} {e : TypeId} {v : Value} {xs : List Value} (h : w.ownsRow base e size v n xs) (hs : w.heap.size ≤ w'.heap.size) (hb : ∀ k, v.ownBlock = some k → w'.heap[k]? = w.heap[k]?) : w'.ownsRow base e size v n xs := by
 refine ⟨h.1, ?_⟩
 rcases h.2 with h1 | ⟨g, cap, cur, hv, hg, hh, rest⟩
 ·exact .inl h1
 ·exact .inr ⟨g, cap, cur, hv, hg, (hb g (by rw [hv]; rfl)).trans hh, rest⟩
theorem own_slice {w : World} {base n size : Nat} {e : TypeId} {v : Value} {xs : List Value} (h : w.ownsRow base e size v n xs) : ∃ A c, v = .slice A n c ∧ n ≤ c ∧ c ≤ maxLen := by
 rcases h.2 with ⟨rfl, rfl⟩ | ⟨g, cap, cur, rfl, _, _, h1, h2, _⟩
 ·exact ⟨none, 0, rfl, Nat.le_refl _, by unfold maxLen; omega⟩
 ·exact ⟨_, cap, rfl, h1, h2⟩
theorem own_type {w : World} {base n size : Nat} {e : TypeId} {v : Value} {xs : List Value} (h : w.ownsRow base e size v n xs) {k : Nat} (hk : v.ownBlock = some k) : ∃ cur, w.heap[k]? = some (.cells cur e (0, 0)) := by
 rcases h.2 with ⟨rfl, _⟩ | ⟨g, cap, cur, rfl, _, hh, _⟩
 ·cases hk
 ·cases hk; exact ⟨cur, hh⟩
/-! ### nodes -/
structure NS where
 pn : Option Addr
 cn : Nat
 pt : Option Addr
 ct : Nat
 pk : Option Addr
 ck : Nat
def ndV (x : NodT) (q : NS) : Value := .agg #[.int .i64 x.kind, .string x.text, .int .i64 x.num, .slice q.pn x.names.length q.cn, .slice q.pt x.temps.length q.ct, .slice q.pk x.kids.length q.ck]
structure Cells6 (w : World) (b o : Nat) (x : NodT) (q : NS) : Prop where
 c0 : w.cell? ⟨b, o, none⟩ = some (.int .i64 x.kind)
 c1 : w.cell? ⟨b, o + 1, none⟩ = some (.string x.text)
 c2 : w.cell? ⟨b, o + 2, none⟩ = some (.int .i64 x.num)
 c3 : w.cell? ⟨b, o + 3, none⟩ = some (.slice q.pn x.names.length q.cn)
 c4 : w.cell? ⟨b, o + 4, none⟩ = some (.slice q.pt x.temps.length q.ct)
 c5 : w.cell? ⟨b, o + 5, none⟩ = some (.slice q.pk x.kids.length q.ck)
theorem Cells6.same {w w' : World} {b o : Nat} {x : NodT} {q : NS} (h : Cells6 w b o x q) (hb : w'.heap[b]? = w.heap[b]?) : Cells6 w' b o x q := by
 have e : ∀ k, w'.cell? ⟨b, k, none⟩ = w.cell? ⟨b, k, none⟩ := fun k => World.cell?_of_block hb
 exact ⟨(e _).trans h.c0, (e _).trans h.c1, (e _).trans h.c2, (e _).trans h.c3, (e _).trans h.c4, (e _).trans h.c5⟩
/-- numbers and lengths that fit -/
structure NdOk (x : NodT) (q : NS) : Prop where
 kind : InI x.kind
 num : InI x.num
 text : x.text.size ≤ big63
 nlen : x.names.length ≤ q.cn ∧ q.cn ≤ maxLen
 tlen : x.temps.length ≤ q.ct ∧ q.ct ≤ maxLen
 klen : x.kids.length ≤ q.ck ∧ q.ck ≤ maxLen
/-- a slice that reads as strings, in the blocks of D -/
def Strs (w : World) (D : Nat → Prop) (p : Option Addr) (l : List ByteArray) : Prop := ∀ i (h : i < l.length), ∃ b off, p = some ⟨b, off, none⟩ ∧ b < w.heap.size ∧ D b ∧ w.cell? ⟨b, off + i, none⟩ = some (.string l[i]) ∧ l[i].size ≤ big63
inductive IsNd (w : World) (D : Nat → Prop) : NodT → NS → Prop
 | node (x : NodT) (q : NS) (Q : Nat → NS) : NdOk x q → Strs w D q.pn x.names → Strs w D q.pt x.temps →
   (∀ i (h : i < x.kids.length), ∃ b off, q.pk = some ⟨b, off, none⟩ ∧ b < w.heap.size ∧ D b ∧ Cells6 w b (off + i * 6) x.kids[i] (Q i)) →
   (∀ i (h : i < x.kids.length), IsNd w D x.kids[i] (Q i)) → IsNd w D x q
section
variable {w w' : World} {D D' : Nat → Prop} {x : NodT} {q : NS}
theorem Strs.same {p : Option Addr} {l : List ByteArray} (h : Strs w D p l) (hs : w.heap.size ≤ w'.heap.size) (hb : ∀ b, D b → b < w.heap.size → w'.heap[b]? = w.heap[b]?) (hD : ∀ b, D b → D' b) : Strs w' D' p l := fun i hi => by
 obtain ⟨b, off, e, h1, h2, h3, h4⟩ := h i hi
 exact ⟨b, off, e, Nat.lt_of_lt_of_le h1 hs, hD b h2, (World.cell?_of_block (hb b h2 h1)).trans h3, h4⟩
theorem IsNd.same (h : IsNd w D x q) (hs : w.heap.size ≤ w'.heap.size) (hb : ∀ b, D b → b < w.heap.size → w'.heap[b]? = w.heap[b]?) (hD : ∀ b, D b → D' b) : IsNd w' D' x q := by
 induction h with
 | node x q Q h1 h2 h3 h4 h5 ih =>
  refine .node x q Q h1 (h2.same hs hb hD) (h3.same hs hb hD) (fun i hi => ?_) ih
  obtain ⟨b, off, e, k1, k2, k3⟩ := h4 i hi
  exact ⟨b, off, e, Nat.lt_of_lt_of_le k1 hs, hD b k2, k3.same (hb b k2 k1)⟩
theorem IsNd.under (h : IsNd w D x q) (hb : Below w.heap.size w w') : IsNd w' D x q := h.same hb.size (fun b _ hl => hb.block b hl) (fun _ z => z)
theorem IsNd.ok (h : IsNd w D x q) : NdOk x q := by cases h; assumption
theorem IsNd.strs (h : IsNd w D x q) : Strs w D q.pn x.names ∧ Strs w D q.pt x.temps := by cases h; exact ⟨by assumption, by assumption⟩
/-- a kid, where it lies -/
theorem IsNd.kid (h : IsNd w D x q) {i : Nat} (hi : i < x.kids.length) : ∃ b off q', q.pk = some ⟨b, off, none⟩ ∧ b < w.heap.size ∧ D b ∧ Cells6 w b (off + i * 6) x.kids[i] q' ∧ IsNd w D x.kids[i] q' := by
 cases h with
 | node x q Q h1 h2 h3 h4 h5 =>
  obtain ⟨b, off, e, k1, k2, k3⟩ := h4 i hi
  exact ⟨b, off, Q i, e, k1, k2, k3, h5 i hi⟩
end
/-! ### literals -/
structure LS where
 p : Option Addr
 c : Nat
def LitT.kind_ : LitT → Int | .node k _ _ _ => k
def LitT.text_ : LitT → ByteArray | .node _ s _ _ => s
def LitT.num_ : LitT → Int | .node _ _ n _ => n
def LitT.kids_ : LitT → List LitT | .node _ _ _ l => l
def ltC (x : LitT) (q : LS) : List Value := [.int .i64 x.kind_, .string x.text_, .int .i64 x.num_, .slice q.p x.kids_.length q.c]
def ltV (x : LitT) (q : LS) : Value := .agg #[.int .i64 x.kind_, .string x.text_, .int .i64 x.num_, .slice q.p x.kids_.length q.c]
structure Cells4 (w : World) (b o : Nat) (x : LitT) (q : LS) : Prop where
 c0 : w.cell? ⟨b, o, none⟩ = some (.int .i64 x.kind_)
 c1 : w.cell? ⟨b, o + 1, none⟩ = some (.string x.text_)
 c2 : w.cell? ⟨b, o + 2, none⟩ = some (.int .i64 x.num_)
 c3 : w.cell? ⟨b, o + 3, none⟩ = some (.slice q.p x.kids_.length q.c)
theorem Cells4.same {w w' : World} {b o : Nat} {x : LitT} {q : LS} (h : Cells4 w b o x q) (hb : w'.heap[b]? = w.heap[b]?) : Cells4 w' b o x q := by
 have e : ∀ k, w'.cell? ⟨b, k, none⟩ = w.cell? ⟨b, k, none⟩ := fun k => World.cell?_of_block hb
 exact ⟨(e _).trans h.c0, (e _).trans h.c1, (e _).trans h.c2, (e _).trans h.c3⟩
structure LtOk (x : LitT) (q : LS) : Prop where
 kind : InI x.kind_
 num : InI x.num_
 text : x.text_.size ≤ big63
 klen : x.kids_.length ≤ q.c ∧ q.c ≤ maxLen
/-- a literal whose kids lie in rows that were made, in the blocks of D -/
inductive IsLt (w : World) (D : Nat → Prop) : LitT → LS → Prop
 | node (x : LitT) (q : LS) (Q : Nat → LS) : LtOk x q →
   (∀ i (h : i < x.kids_.length), ∃ b cur, q.p = some ⟨b, 0, none⟩ ∧ w.heap[b]? = some (.cells cur 40 (0, 0)) ∧ D b ∧ Cells4 w b (i * 4) x.kids_[i] (Q i)) →
   (∀ i (h : i < x.kids_.length), IsLt w D x.kids_[i] (Q i)) → IsLt w D x q
section
variable {w w' : World} {D D' : Nat → Prop} {x : LitT} {q : LS}
theorem IsLt.same (h : IsLt w D x q) (hs : w.heap.size ≤ w'.heap.size) (hb : ∀ b, D b → b < w.heap.size → w'.heap[b]? = w.heap[b]?) (hD : ∀ b, D b → D' b) : IsLt w' D' x q := by
 induction h with
 | node x q Q h1 h4 h5 ih =>
  refine .node x q Q h1 (fun i hi => ?_) ih
  obtain ⟨b, cur, e, k1, k2, k3⟩ := h4 i hi
  have hl := lt_of_block k1
  exact ⟨b, cur, e, (hb b k2 hl).trans k1, hD b k2, k3.same (hb b k2 hl)⟩
theorem IsLt.under (h : IsLt w D x q) (hb : Below w.heap.size w w') : IsLt w' D x q := h.same hb.size (fun b _ hl => hb.block b hl) (fun _ z => z)
theorem IsLt.ok (h : IsLt w D x q) : LtOk x q := by cases h; assumption
theorem IsLt.kid (h : IsLt w D x q) {i : Nat} (hi : i < x.kids_.length) : ∃ b cur q', q.p = some ⟨b, 0, none⟩ ∧ w.heap[b]? = some (.cells cur 40 (0, 0)) ∧ D b ∧ Cells4 w b (i * 4) x.kids_[i] q' ∧ IsLt w D x.kids_[i] q' := by
 cases h with
 | node x q Q h1 h4 h5 =>
  obtain ⟨b, cur, e, k1, k2, k3⟩ := h4 i hi
  exact ⟨b, cur, Q i, e, k1, k2, k3, h5 i hi⟩
/-- a literal without kids -/
theorem IsLt.leaf (w : World) (D : Nat → Prop) {k n : Int} {s : ByteArray} (hk : InI k) (hn : InI n) (hs : s.size ≤ big63) : IsLt w D (.node k s n []) ⟨none, 0⟩ :=
 .node _ _ (fun _ => ⟨none, 0⟩) ⟨hk, hn, hs, Nat.le_refl _, Nat.zero_le _⟩ (fun i h => absurd h (by simp [LitT.kids_])) (fun i h => absurd h (by simp [LitT.kids_]))
end
abbrev LP := LitT × LS
def lpC (p : LP) : List Value := ltC p.1 p.2
/-- a row of literals of the call's own -/
structure LitRow (w : World) (D : Nat → Prop) (v : Value) (ps : List LP) : Prop where
 own : w.ownsRow 0 40 4 v ps.length (ps.flatMap lpC)
 lits : ∀ p, p ∈ ps → IsLt w D p.1 p.2
theorem flat_len {α : Type} {f : α → List Value} {n : Nat} (hf : ∀ a, (f a).length = n) : ∀ l : List α, (l.flatMap f).length = l.length * n
 | [] => by simp
 | a :: l => by rw [List.flatMap_cons, List.length_append, hf, flat_len hf l, List.length_cons, Nat.add_mul]; omega
theorem flat_at {α : Type} {f : α → List Value} {n : Nat} (hf : ∀ a, (f a).length = n) : ∀ (l : List α) (i j : Nat) (hi : i < l.length), j < n → (l.flatMap f)[i * n + j]? = (f l[i])[j]?
 | [], i, j, hi, _ => absurd hi (by simp)
 | a :: l, 0, j, hi, hj => by
  rw [List.flatMap_cons, Nat.zero_mul, Nat.zero_add, List.getElem?_append_left (by rw [hf]; exact hj)]; rfl
 | a :: l, i + 1, j, hi, hj => by
  have ih := flat_at hf l i j (by simpa using hi) hj
  rw [List.flatMap_cons, List.getElem?_append_right (by rw [hf, Nat.add_mul]; omega), hf, show (i + 1) * n + j - n = i * n + j by rw [Nat.add_mul]; omega, ih]
  rfl
theorem lpC_len (p : LP) : (lpC p).length = 4 := rfl
section
variable {w w' : World} {D D' : Nat → Prop} {v : Value} {ps : List LP}
theorem LitRow.same (h : LitRow w D v ps) (hs : w.heap.size ≤ w'.heap.size) (ho : ∀ k, v.ownBlock = some k → w'.heap[k]? = w.heap[k]?) (hb : ∀ b, D b → b < w.heap.size → w'.heap[b]? = w.heap[b]?) (hD : ∀ b, D b → D' b) : LitRow w' D' v ps :=
 ⟨ownsRow_same h.own hs ho, fun p hp => (h.lits p hp).same hs hb hD⟩
/-- a literal of the row -/
theorem LitRow.at_ (h : LitRow w D v ps) {i : Nat} (hi : i < ps.length) : ∃ b c cur, v = .slice (some ⟨b, 0, none⟩) ps.length c ∧ ps.length ≤ c ∧ w.heap[b]? = some (.cells cur 40 (0, 0)) ∧ Cells4 w b (i * 4) ps[i].1 ps[i].2 := by
 have ho := h.own
 rcases ho.2 with ⟨_, h0⟩ | ⟨g, cap, cur, hv, hg, hh, h1, h2, _⟩
 ·omega
 ·rw [hv] at ho
  have hc : ∀ j, j < 4 → w.cell? ⟨g, i * 4 + j, none⟩ = (lpC ps[i])[j]? := fun j hj => by
   rw [World.ownsRow.cellAt ho (i * 4 + j) (by omega)]
   exact flat_at lpC_len ps i j hi hj
  exact ⟨g, cap, cur, hv, h1, hh, hc 0 (by omega), hc 1 (by omega), hc 2 (by omega), hc 3 (by omega)⟩
theorem LitRow.nil (w : World) (D : Nat → Prop) : LitRow w D (.slice none 0 0) [] := ⟨World.ownsRow_nil _ _ _ _, fun p hp => absurd hp (by simp)⟩
end
/-! ### names, code -/
def insC (i : Ins) : List Value := [.int .i64 i.op, .int .i64 i.a, .int .i64 i.b]
theorem insC_len (i : Ins) : (insC i).length = 3 := rfl
def nmC (k : Nm) : List Value := [.string k.name, .bool (decide (k.kind = 1)), .bool (decide (k.kind = 3)), .int .i64 k.at_]
theorem nmC_len (k : Nm) : (nmC k).length = 4 := rfl
def NmOk (l : List Nm) : Prop := ∀ k, k ∈ l → k.name.size ≤ big63 ∧ 0 ≤ k.at_ ∧ k.at_ ≤ 1000
/-- names that read so: a row of the call's own, or a slice without spare room -/
def NmRow (w : World) (W : Nat → Prop) (v : Value) (l : List Nm) : Prop :=
 (w.ownsRow 0 75 4 v l.length (l.flatMap nmC) ∧ ∀ k, v.ownBlock = some k → W k) ∨
 (∃ A, v = .slice A l.length l.length ∧ (A = none → l = []) ∧ ∀ b, A = some b → b.off = 0 ∧ b.spot = none ∧ (∃ cur, w.heap[b.block]? = some (.cells cur 75 (0, 0))) ∧ ∀ j u, (l.flatMap nmC)[j]? = some u → w.cell? ⟨b.block, j, none⟩ = some u)
theorem NmRow.slice {w : World} {W : Nat → Prop} {v : Value} {l : List Nm} (h : NmRow w W v l) : ∃ A c, v = .slice A l.length c ∧ l.length ≤ c := by
 rcases h with ⟨h, _⟩ | ⟨A, hv, _⟩
 ·obtain ⟨A, c, h1, h2, _⟩ := own_slice h; exact ⟨A, c, h1, h2⟩
 ·exact ⟨A, _, hv, Nat.le_refl _⟩
theorem NmRow.at_ {w : World} {W : Nat → Prop} {v : Value} {l : List Nm} (h : NmRow w W v l) {i : Nat} (hi : i < l.length) : ∃ b c, v = .slice (some ⟨b, 0, none⟩) l.length c ∧ b < w.heap.size ∧ w.cell? ⟨b, i * 4, none⟩ = some (.string l[i].name) ∧ w.cell? ⟨b, i * 4 + 1, none⟩ = some (.bool (decide (l[i].kind = 1))) ∧ w.cell? ⟨b, i * 4 + 2, none⟩ = some (.bool (decide (l[i].kind = 3))) ∧ w.cell? ⟨b, i * 4 + 3, none⟩ = some (.int .i64 l[i].at_) := by
 rcases h with ⟨ho, _⟩ | ⟨A, hv, hn, hA⟩
 ·rcases ho.2 with ⟨_, h0⟩ | ⟨g, cap, cur, hv, hg, hh, h1, h2, _⟩
  ·omega
  ·rw [hv] at ho
   have hc : ∀ j, j < 4 → w.cell? ⟨g, i * 4 + j, none⟩ = (nmC l[i])[j]? := fun j hj => by
    rw [World.ownsRow.cellAt ho (i * 4 + j) (by omega)]
    exact flat_at nmC_len l i j hi hj
   exact ⟨g, cap, hv, lt_of_block hh, hc 0 (by omega), hc 1 (by omega), hc 2 (by omega), hc 3 (by omega)⟩
 ·cases A with
  | none => rw [hn rfl] at hi; simp at hi
  | some b =>
   obtain ⟨e1, e2, e3, e4⟩ := hA b rfl
   obtain ⟨bb, bo, bs⟩ := b
   simp only at e1 e2 e3 e4
   subst e1
   subst e2
   have hc : ∀ j, j < 4 → w.cell? ⟨bb, i * 4 + j, none⟩ = (nmC l[i])[j]? := fun j hj => by
    have h1 := flat_at nmC_len l i j hi hj
    have hj' : j < (nmC l[i]).length := hj
    rw [List.getElem?_eq_getElem hj'] at h1 ⊢
    exact e4 _ _ h1
   exact ⟨bb, _, hv, lt_of_block e3.choose_spec, hc 0 (by omega), hc 1 (by omega), hc 2 (by omega), hc 3 (by omega)⟩
theorem NmRow.same {w w' : World} {W W' : Nat → Prop} {v : Value} {l : List Nm} (h : NmRow w W v l) (hs : w.heap.size ≤ w'.heap.size) (hb : ∀ k, v.ownBlock = some k → w'.heap[k]? = w.heap[k]?) (hW : ∀ k, v.ownBlock = some k → W k → W' k) : NmRow w' W' v l := by
 rcases h with ⟨ho, hk⟩ | ⟨A, hv, hn, hA⟩
 ·exact .inl ⟨ownsRow_same ho hs hb, fun k q => hW k q (hk k q)⟩
 ·refine .inr ⟨A, hv, hn, fun b e => ?_⟩
  obtain ⟨e1, e2, e3, e4⟩ := hA b e
  have hbb := hb b.block (by rw [hv, e]; rfl)
  exact ⟨e1, e2, ⟨_, hbb.trans e3.choose_spec⟩, fun j u hj => (World.cell?_of_block (a := ⟨b.block, j, none⟩) hbb).trans (e4 j u hj)⟩
theorem NmRow.lt {w : World} {W : Nat → Prop} {v : Value} {l : List Nm} (h : NmRow w W v l) {k : Nat} (hk : v.ownBlock = some k) : k < w.heap.size := by
 rcases h with ⟨ho, _⟩ | ⟨A, hv, hn, hA⟩
 ·exact (World.ownsRow.lt ho k hk).2
 ·rw [hv] at hk
  cases A with
  | none => cases hk
  | some b => cases hk; exact lt_of_block (hA b rfl).2.2.1.choose_spec
theorem NmRow.type {w : World} {W : Nat → Prop} {v : Value} {l : List Nm} (h : NmRow w W v l) {k : Nat} (hk : v.ownBlock = some k) : ∃ cur, w.heap[k]? = some (.cells cur 75 (0, 0)) := by
 rcases h with ⟨ho, _⟩ | ⟨A, hv, hn, hA⟩
 ·exact own_type ho hk
 ·rw [hv] at hk
  cases A with
  | none => cases hk
  | some b => cases hk; exact (hA b rfl).2.2.1
/-! ### a method under way -/
/-- what stays of it: the selector, the arguments, the primitive -/
structure MK where
 sel : ByteArray
 args : Nat
 prim : Int
def boxC (m : MK) (s : CSt) (lv cv nv : Value) : Array Value := #[.string m.sel, .int .i64 (m.args : Int), .int .i64 (s.temps : Int), .int .i64 m.prim, lv, cv, nv, .string s.ename, .int .i64 s.err]
/-- where its parts lie: nothing of it lies in the blocks of P -/
structure CY (w0 : World) (P : Nat → Prop) (w : World) (cb : Nat) (m : MK) (s : CSt) (lv cv nv : Value) (D : Nat → Prop) (ps : List LP) : Prop where
 box : w.heap[cb]? = some (.cells (boxC m s lv cv nv) 73 (0, 0))
 lits : LitRow w D lv ps
 lps : ps.map Prod.fst = s.lits
 code : w.ownsRow 0 37 3 cv s.code.length (s.code.flatMap insC)
 names : NmRow w (fun k => ¬ P k ∧ k ≠ cb) nv s.names
 nok : NmOk s.names
 cbP : ¬ P cb
 lvP : ∀ k, lv.ownBlock = some k → ¬ P k ∧ ¬ D k
 cvP : ∀ k, cv.ownBlock = some k → ¬ P k
 dlt : ∀ k, D k → k < w.heap.size ∧ k ≠ cb
 dty : ∀ k, D k → ∃ cur, w.heap[k]? = some (.cells cur 40 (0, 0))
 stat : Below w0.heap.size w0 w
 low : ∀ k, k < w0.heap.size → P k
 lim : ∀ k, P k → k < w.heap.size
 enm : s.ename.size ≤ big63
def CX (w0 : World) (P : Nat → Prop) (w : World) (cb : Nat) (m : MK) (s : CSt) : Prop := ∃ lv cv nv D ps, CY w0 P w cb m s lv cv nv D ps ∧ s.temps ≤ 24 ∧ s.names.length ≤ 8 + s.temps
abbrev outP (P : Nat → Prop) : Nat → Prop := fun k => ¬ P k
abbrev CT (w0 : World) (P : Nat → Prop) (ws w : World) (cb : Nat) (m : MK) (s : CSt) : Prop := CX w0 P w cb m s ∧ Turns (outP P) ws w
section
variable {w0 w w' : World} {P P' : Nat → Prop} {cb : Nat} {m : MK} {s s' : CSt} {lv cv nv : Value} {D : Nat → Prop} {ps : List LP}
theorem CY.below (h : CY w0 P w cb m s lv cv nv D ps) (hb : Below w.heap.size w w') (hP : ∀ k, P k → P' k) (hP' : ∀ k, P' k → P k ∨ (w.heap.size ≤ k ∧ k < w'.heap.size)) : CY w0 P' w' cb m s lv cv nv D ps := by
 have hn : ∀ k, k < w.heap.size → ¬ P k → ¬ P' k := fun k hk q z => (hP' k z).elim q (fun y => by omega)
 have hcb := lt_of_block h.box
 refine ⟨(hb.block cb hcb).trans h.box, h.lits.same hb.size (fun k hk => hb.block k (World.ownsRow.lt h.lits.own k hk).2) (fun b _ hl => hb.block b hl) (fun _ z => z), h.lps, ownsRow_same h.code hb.size (fun k hk => hb.block k (World.ownsRow.lt h.code k hk).2), h.names.same hb.size (fun k hk => hb.block k (h.names.lt hk)) (fun k hk z => ⟨hn k (h.names.lt hk) z.1, z.2⟩), h.nok, hn cb hcb h.cbP, fun k hk => ⟨hn k (World.ownsRow.lt h.lits.own k hk).2 (h.lvP k hk).1, (h.lvP k hk).2⟩, fun k hk => hn k (World.ownsRow.lt h.code k hk).2 (h.cvP k hk), fun k hk => ⟨Nat.lt_of_lt_of_le (h.dlt k hk).1 hb.size, (h.dlt k hk).2⟩, fun k hk => ?_, h.stat.trans (hb.mono h.stat.size), fun k hk => hP k (h.low k hk), fun k hk => ?_, h.enm⟩
 ·obtain ⟨cur, hc⟩ := h.dty k hk
  exact ⟨cur, (hb.block k (lt_of_block hc)).trans hc⟩
 ·rcases hP' k hk with q | q
  ·exact Nat.lt_of_lt_of_le (h.lim k q) hb.size
  ·exact q.2
theorem CX.below (h : CX w0 P w cb m s) (hb : Below w.heap.size w w') : CX w0 P w' cb m s := by
 obtain ⟨lv, cv, nv, D, ps, h, hf⟩ := h
 exact ⟨lv, cv, nv, D, ps, h.below hb (fun _ z => z) (fun _ z => .inl z), hf⟩
/-- what was made since is kept too -/
theorem CX.keep (h : CX w0 P w cb m s) (hb : Below w.heap.size w w') : CX w0 (fun k => P k ∨ (w.heap.size ≤ k ∧ k < w'.heap.size)) w' cb m s := by
 obtain ⟨lv, cv, nv, D, ps, h, hf⟩ := h
 exact ⟨lv, cv, nv, D, ps, h.below hb (fun _ z => .inl z) (fun _ z => z), hf⟩
theorem CY.less (h : CY w0 P w cb m s lv cv nv D ps) (hP : ∀ k, P' k → P k) (hl : ∀ k, k < w0.heap.size → P' k) : CY w0 P' w cb m s lv cv nv D ps :=
 ⟨h.box, h.lits, h.lps, h.code, h.names.same (Nat.le_refl _) (fun _ _ => rfl) (fun k _ z => ⟨fun q => z.1 (hP k q), z.2⟩), h.nok, fun q => h.cbP (hP cb q), fun k hk => ⟨fun q => (h.lvP k hk).1 (hP k q), (h.lvP k hk).2⟩, fun k hk q => h.cvP k hk (hP k q), h.dlt, h.dty, h.stat, hl, fun k hk => h.lim k (hP k hk), h.enm⟩
theorem CX.less (h : CX w0 P w cb m s) (hP : ∀ k, P' k → P k) (hl : ∀ k, k < w0.heap.size → P' k) : CX w0 P' w cb m s := by
 obtain ⟨lv, cv, nv, D, ps, h, hf⟩ := h
 exact ⟨lv, cv, nv, D, ps, h.less hP hl, hf⟩
theorem CT.below {ws : World} (h : CT w0 P ws w cb m s) (hb : Below w.heap.size w w') : CT w0 P ws w' cb m s := ⟨h.1.below hb, h.2.trans (Turns.of_below hb)⟩
theorem CT.go {ws : World} (h : CT w0 P ws w cb m s) (hc : CT w0 P w w' cb m s') : CT w0 P ws w' cb m s' := ⟨hc.1, h.2.trans hc.2⟩
theorem CX.ct (h : CX w0 P w cb m s) : CT w0 P w w cb m s := ⟨h, Turns.refl _ _⟩
theorem CX.stat (h : CX w0 P w cb m s) : Below w0.heap.size w0 w := by obtain ⟨lv, cv, nv, D, ps, h, _⟩ := h; exact h.stat
theorem CX.few (h : CX w0 P w cb m s) : s.temps ≤ 24 ∧ s.names.length ≤ 8 + s.temps := by obtain ⟨lv, cv, nv, D, ps, h, hf⟩ := h; exact hf
theorem CX.lim (h : CX w0 P w cb m s) : ∀ k, P k → k < w.heap.size := by obtain ⟨lv, cv, nv, D, ps, h, _⟩ := h; exact h.lim
theorem CX.low (h : CX w0 P w cb m s) : ∀ k, k < w0.heap.size → P k := by obtain ⟨lv, cv, nv, D, ps, h, _⟩ := h; exact h.low
theorem CX.nok (h : CX w0 P w cb m s) : NmOk s.names := by obtain ⟨lv, cv, nv, D, ps, h, _⟩ := h; exact h.nok
/-- behind work that kept more: boxes of one's own are as they were -/
theorem CT.back {ws : World} (h0 : CT w0 P ws w cb m s) (hb : Below w.heap.size w w') {w'' : World} (h : CT w0 P' w' w'' cb m s') (hP : ∀ k, P k → P' k) : CT w0 P ws w'' cb m s' :=
 ⟨h.1.less hP h0.1.low, (h0.2.trans (Turns.of_below hb)).trans (h.2.mono (fun k _ z q => z (hP k q)))⟩
theorem CY.ne (h : CY w0 P w cb m s lv cv nv D ps) : (∀ k, lv.ownBlock = some k → k ≠ cb ∧ cv.ownBlock ≠ some k) ∧ (∀ k, cv.ownBlock = some k → k ≠ cb ∧ ¬ D k) := by
 refine ⟨fun k hk => ⟨fun e => ?_, fun e => ?_⟩, fun k hk => ⟨fun e => ?_, fun e => ?_⟩⟩
 ·obtain ⟨cur, hc⟩ := own_type h.lits.own hk
  rw [e, h.box] at hc; simp at hc
 ·obtain ⟨cur, hc⟩ := own_type h.lits.own hk
  obtain ⟨cur2, hc2⟩ := own_type h.code e
  rw [hc] at hc2; simp at hc2
 ·obtain ⟨cur, hc⟩ := own_type h.code hk
  rw [e, h.box] at hc; simp at hc
 ·obtain ⟨cur, hc⟩ := own_type h.code hk
  obtain ⟨cur2, hc2⟩ := h.dty k e
  rw [hc] at hc2; simp at hc2
theorem CY.cell (h : CY w0 P w cb m s lv cv nv D ps) (k : Nat) : w.cell? ⟨cb, k, none⟩ = (boxC m s lv cv nv)[k]? := by simp [World.cell?, h.box]
theorem CY.free (h : CY w0 P w cb m s lv cv nv D ps) (k : Nat) : w.frozen? ⟨cb, k, none⟩ = false := by simp [World.frozen?, h.box]
end
/-- short words, for the walks -/
theorem cc4 {w : World} {b : Nat} {t : TypeId} {fr : Nat × Nat} {x0 x1 x2 x3 : Value} (h : w.heap[b]? = some (.cells #[x0, x1, x2, x3] t fr)) : w.cell? ⟨b, 0, none⟩ = some x0 ∧ w.cell? ⟨b, 1, none⟩ = some x1 ∧ w.cell? ⟨b, 2, none⟩ = some x2 ∧ w.cell? ⟨b, 3, none⟩ = some x3 := ⟨by simp only [World.cell?, h]; rfl, by simp only [World.cell?, h]; rfl, by simp only [World.cell?, h]; rfl, by simp only [World.cell?, h]; rfl⟩
theorem cf4 {w : World} {b : Nat} {t : TypeId} {x0 x1 x2 x3 : Value} (h : w.heap[b]? = some (.cells #[x0, x1, x2, x3] t (0, 0))) : w.cell? ⟨b, 0, none⟩ = some x0 ∧ w.cell? ⟨b, 1, none⟩ = some x1 ∧ w.cell? ⟨b, 2, none⟩ = some x2 ∧ w.cell? ⟨b, 3, none⟩ = some x3 ∧ w.frozen? ⟨b, 0, none⟩ = false ∧ w.frozen? ⟨b, 1, none⟩ = false ∧ w.frozen? ⟨b, 2, none⟩ = false ∧ w.frozen? ⟨b, 3, none⟩ = false := ⟨by simp only [World.cell?, h]; rfl, by simp only [World.cell?, h]; rfl, by simp only [World.cell?, h]; rfl, by simp only [World.cell?, h]; rfl, by simp [World.frozen?, h], by simp [World.frozen?, h], by simp [World.frozen?, h], by simp [World.frozen?, h]⟩
theorem cc6 {w : World} {b : Nat} {t : TypeId} {fr : Nat × Nat} {x0 x1 x2 x3 x4 x5 : Value} (h : w.heap[b]? = some (.cells #[x0, x1, x2, x3, x4, x5] t fr)) : w.cell? ⟨b, 0, none⟩ = some x0 ∧ w.cell? ⟨b, 1, none⟩ = some x1 ∧ w.cell? ⟨b, 2, none⟩ = some x2 ∧ w.cell? ⟨b, 3, none⟩ = some x3 ∧ w.cell? ⟨b, 4, none⟩ = some x4 ∧ w.cell? ⟨b, 5, none⟩ = some x5 := ⟨by simp only [World.cell?, h]; rfl, by simp only [World.cell?, h]; rfl, by simp only [World.cell?, h]; rfl, by simp only [World.cell?, h]; rfl, by simp only [World.cell?, h]; rfl, by simp only [World.cell?, h]; rfl⟩
theorem cf6 {w : World} {b : Nat} {t : TypeId} {x0 x1 x2 x3 x4 x5 : Value} (h : w.heap[b]? = some (.cells #[x0, x1, x2, x3, x4, x5] t (0, 0))) : w.cell? ⟨b, 0, none⟩ = some x0 ∧ w.cell? ⟨b, 1, none⟩ = some x1 ∧ w.cell? ⟨b, 2, none⟩ = some x2 ∧ w.cell? ⟨b, 3, none⟩ = some x3 ∧ w.cell? ⟨b, 4, none⟩ = some x4 ∧ w.cell? ⟨b, 5, none⟩ = some x5 ∧ w.frozen? ⟨b, 0, none⟩ = false ∧ w.frozen? ⟨b, 1, none⟩ = false ∧ w.frozen? ⟨b, 2, none⟩ = false ∧ w.frozen? ⟨b, 3, none⟩ = false ∧ w.frozen? ⟨b, 4, none⟩ = false ∧ w.frozen? ⟨b, 5, none⟩ = false := ⟨by simp only [World.cell?, h]; rfl, by simp only [World.cell?, h]; rfl, by simp only [World.cell?, h]; rfl, by simp only [World.cell?, h]; rfl, by simp only [World.cell?, h]; rfl, by simp only [World.cell?, h]; rfl, by simp [World.frozen?, h], by simp [World.frozen?, h], by simp [World.frozen?, h], by simp [World.frozen?, h], by simp [World.frozen?, h], by simp [World.frozen?, h]⟩
end Go.Proofs.Ytnojndgmgkgnpaa
